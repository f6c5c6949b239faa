import Derived.Test.YtembchgiajidaaaGreatProg
import Derived.Test.YtembchgiajidaaaGreatM4NetNone
set_option linter.unusedVariables false
set_option linter.unusedSimpArgs false
set_option maxRecDepth 100000
set_option maxHeartbeats 4000000
namespace Go.Proofs.YtembchgiajidaaaGreat
open Go.Sh
def tab : Go.Sh.Tab := [
 (1, ⟨.other, 1, 8, [.sc .nilFunc]⟩),
 (2, ⟨.int .i64, 1, 8, [.sc (.int .i64 0)]⟩),
 (3, ⟨.int .i64, 1, 8, [.sc (.int .i64 0)]⟩),
 (4, ⟨.bool, 1, 1, [.sc (.bool false)]⟩),
 (5, ⟨.int .u8, 1, 1, [.sc (.int .u8 0)]⟩),
 (9, ⟨.str, 1, 16, [.sc (.string ⟨#[]⟩)]⟩),
 (12, ⟨.int .u64, 1, 8, [.sc (.int .u64 0)]⟩),
 (13, ⟨.struct [(0, 9), (1, 12)], 2, 24, [.sc (.string ⟨#[]⟩), .sc (.int .u64 0)]⟩),
 (21, ⟨.int .i32, 1, 4, [.sc (.int .i32 0)]⟩),
 (22, ⟨.slice 34, 1, 24, [.sl 0 [] true]⟩),
 (23, ⟨.other, 1, 8, [.sc .nilFunc]⟩),
 (24, ⟨.ptr 87, 1, 8, [.sc (.pointer none)]⟩),
 (25, ⟨.int .i64, 1, 8, [.sc (.int .i64 0)]⟩),
 (27, ⟨.other, 1, 8, [.sc .nilFunc]⟩),
 (28, ⟨.slice 58, 1, 24, [.sl 0 [] true]⟩),
 (29, ⟨.struct [(0, 3), (1, 3), (2, 3), (3, 28)], 4, 48, [.sc (.int .i64 0), .sc (.int .i64 0), .sc (.int .i64 0), .sl 0 [] true]⟩),
 (30, ⟨.struct [(0, 3), (1, 3), (2, 3), (3, 28)], 4, 48, [.sc (.int .i64 0), .sc (.int .i64 0), .sc (.int .i64 0), .sl 0 [] true]⟩),
 (31, ⟨.other, 1, 8, [.sc .nilFunc]⟩),
 (32, ⟨.slice 5, 1, 24, [.sl 0 [] true]⟩),
 (33, ⟨.other, 1, 8, [.sc .nilFunc]⟩),
 (34, ⟨.int .u16, 1, 2, [.sc (.int .u16 0)]⟩),
 (35, ⟨.int .u64, 1, 8, [.sc (.int .u64 0)]⟩),
 (36, ⟨.arr 12 35, 12, 96, [.arr .u64 12 [0, 0, 0, 0, 0, 0, 0, 0, 0, 0, 0, 0]]⟩),
 (37, ⟨.arr 12 35, 12, 96, [.arr .u64 12 [0, 0, 0, 0, 0, 0, 0, 0, 0, 0, 0, 0]]⟩),
 (38, ⟨.struct [(0, 37), (12, 37)], 24, 192, [.arr .u64 12 [0, 0, 0, 0, 0, 0, 0, 0, 0, 0, 0, 0], .arr .u64 12 [0, 0, 0, 0, 0, 0, 0, 0, 0, 0, 0, 0]]⟩),
 (39, ⟨.struct [(0, 37), (12, 37)], 24, 192, [.arr .u64 12 [0, 0, 0, 0, 0, 0, 0, 0, 0, 0, 0, 0], .arr .u64 12 [0, 0, 0, 0, 0, 0, 0, 0, 0, 0, 0, 0]]⟩),
 (40, ⟨.slice 60, 1, 24, [.sl 0 [] true]⟩),
 (41, ⟨.struct [(0, 3), (1, 39), (25, 3), (26, 40), (27, 3), (28, 3), (29, 3), (30, 4)], 31, 264, [.sc (.int .i64 0), .arr .u64 12 [0, 0, 0, 0, 0, 0, 0, 0, 0, 0, 0, 0], .arr .u64 12 [0, 0, 0, 0, 0, 0, 0, 0, 0, 0, 0, 0], .sc (.int .i64 0), .sl 0 [] true, .sc (.int .i64 0), .sc (.int .i64 0), .sc (.int .i64 0), .sc (.bool false)]⟩),
 (42, ⟨.struct [(0, 3), (1, 39), (25, 3), (26, 40), (27, 3), (28, 3), (29, 3), (30, 4)], 31, 264, [.sc (.int .i64 0), .arr .u64 12 [0, 0, 0, 0, 0, 0, 0, 0, 0, 0, 0, 0], .arr .u64 12 [0, 0, 0, 0, 0, 0, 0, 0, 0, 0, 0, 0], .sc (.int .i64 0), .sl 0 [] true, .sc (.int .i64 0), .sc (.int .i64 0), .sc (.int .i64 0), .sc (.bool false)]⟩),
 (43, ⟨.slice 70, 1, 24, [.sl 0 [] true]⟩),
 (44, ⟨.struct [(0, 3), (1, 3), (2, 25), (3, 42), (34, 3), (35, 37), (47, 43)], 48, 416, [.sc (.int .i64 0), .sc (.int .i64 0), .sc (.int .i64 0), .sc (.int .i64 0), .arr .u64 12 [0, 0, 0, 0, 0, 0, 0, 0, 0, 0, 0, 0], .arr .u64 12 [0, 0, 0, 0, 0, 0, 0, 0, 0, 0, 0, 0], .sc (.int .i64 0), .sl 0 [] true, .sc (.int .i64 0), .sc (.int .i64 0), .sc (.int .i64 0), .sc (.bool false), .sc (.int .i64 0), .arr .u64 12 [0, 0, 0, 0, 0, 0, 0, 0, 0, 0, 0, 0], .sl 0 [] true]⟩),
 (45, ⟨.struct [(0, 3), (1, 3), (2, 25), (3, 42), (34, 3), (35, 37), (47, 43)], 48, 416, [.sc (.int .i64 0), .sc (.int .i64 0), .sc (.int .i64 0), .sc (.int .i64 0), .arr .u64 12 [0, 0, 0, 0, 0, 0, 0, 0, 0, 0, 0, 0], .arr .u64 12 [0, 0, 0, 0, 0, 0, 0, 0, 0, 0, 0, 0], .sc (.int .i64 0), .sl 0 [] true, .sc (.int .i64 0), .sc (.int .i64 0), .sc (.int .i64 0), .sc (.bool false), .sc (.int .i64 0), .arr .u64 12 [0, 0, 0, 0, 0, 0, 0, 0, 0, 0, 0, 0], .sl 0 [] true]⟩),
 (47, ⟨.other, 1, 8, [.sc .nilFunc]⟩),
 (48, ⟨.other, 1, 8, [.sc .nilFunc]⟩),
 (50, ⟨.other, 1, 8, [.sc .nilFunc]⟩),
 (51, ⟨.other, 1, 8, [.sc .nilFunc]⟩),
 (52, ⟨.other, 1, 8, [.sc .nilFunc]⟩),
 (53, ⟨.other, 1, 8, [.sc .nilFunc]⟩),
 (54, ⟨.other, 1, 8, [.sc .nilFunc]⟩),
 (55, ⟨.struct [(0, 3), (1, 3)], 2, 16, [.sc (.int .i64 0), .sc (.int .i64 0)]⟩),
 (56, ⟨.struct [(0, 3), (1, 3)], 2, 16, [.sc (.int .i64 0), .sc (.int .i64 0)]⟩),
 (57, ⟨.struct [(0, 56), (2, 56)], 4, 32, [.sc (.int .i64 0), .sc (.int .i64 0), .sc (.int .i64 0), .sc (.int .i64 0)]⟩),
 (58, ⟨.struct [(0, 56), (2, 56)], 4, 32, [.sc (.int .i64 0), .sc (.int .i64 0), .sc (.int .i64 0), .sc (.int .i64 0)]⟩),
 (59, ⟨.struct [(0, 3), (1, 3), (2, 3), (3, 35)], 4, 32, [.sc (.int .i64 0), .sc (.int .i64 0), .sc (.int .i64 0), .sc (.int .u64 0)]⟩),
 (60, ⟨.struct [(0, 3), (1, 3), (2, 3), (3, 35)], 4, 32, [.sc (.int .i64 0), .sc (.int .i64 0), .sc (.int .i64 0), .sc (.int .u64 0)]⟩),
 (61, ⟨.slice 68, 1, 24, [.sl 0 [] true]⟩),
 (62, ⟨.slice 66, 1, 24, [.sl 0 [] true]⟩),
 (64, ⟨.other, 1, 8, [.sc .nilFunc]⟩),
 (65, ⟨.struct [(0, 3), (1, 37)], 13, 104, [.sc (.int .i64 0), .arr .u64 12 [0, 0, 0, 0, 0, 0, 0, 0, 0, 0, 0, 0]]⟩),
 (66, ⟨.struct [(0, 3), (1, 37)], 13, 104, [.sc (.int .i64 0), .arr .u64 12 [0, 0, 0, 0, 0, 0, 0, 0, 0, 0, 0, 0]]⟩),
 (67, ⟨.struct [(0, 56), (2, 37), (14, 4), (15, 3), (16, 39)], 40, 320, [.sc (.int .i64 0), .sc (.int .i64 0), .arr .u64 12 [0, 0, 0, 0, 0, 0, 0, 0, 0, 0, 0, 0], .sc (.bool false), .sc (.int .i64 0), .arr .u64 12 [0, 0, 0, 0, 0, 0, 0, 0, 0, 0, 0, 0], .arr .u64 12 [0, 0, 0, 0, 0, 0, 0, 0, 0, 0, 0, 0]]⟩),
 (68, ⟨.struct [(0, 56), (2, 37), (14, 4), (15, 3), (16, 39)], 40, 320, [.sc (.int .i64 0), .sc (.int .i64 0), .arr .u64 12 [0, 0, 0, 0, 0, 0, 0, 0, 0, 0, 0, 0], .sc (.bool false), .sc (.int .i64 0), .arr .u64 12 [0, 0, 0, 0, 0, 0, 0, 0, 0, 0, 0, 0], .arr .u64 12 [0, 0, 0, 0, 0, 0, 0, 0, 0, 0, 0, 0]]⟩),
 (69, ⟨.struct [(0, 39), (24, 3), (25, 40), (26, 3), (27, 3), (28, 3), (29, 3), (30, 3), (31, 3)], 32, 272, [.arr .u64 12 [0, 0, 0, 0, 0, 0, 0, 0, 0, 0, 0, 0], .arr .u64 12 [0, 0, 0, 0, 0, 0, 0, 0, 0, 0, 0, 0], .sc (.int .i64 0), .sl 0 [] true, .sc (.int .i64 0), .sc (.int .i64 0), .sc (.int .i64 0), .sc (.int .i64 0), .sc (.int .i64 0), .sc (.int .i64 0)]⟩),
 (70, ⟨.struct [(0, 39), (24, 3), (25, 40), (26, 3), (27, 3), (28, 3), (29, 3), (30, 3), (31, 3)], 32, 272, [.arr .u64 12 [0, 0, 0, 0, 0, 0, 0, 0, 0, 0, 0, 0], .arr .u64 12 [0, 0, 0, 0, 0, 0, 0, 0, 0, 0, 0, 0], .sc (.int .i64 0), .sl 0 [] true, .sc (.int .i64 0), .sc (.int .i64 0), .sc (.int .i64 0), .sc (.int .i64 0), .sc (.int .i64 0), .sc (.int .i64 0)]⟩),
 (71, ⟨.other, 1, 8, [.sc .nilFunc]⟩),
 (72, ⟨.slice 74, 1, 24, [.sl 0 [] true]⟩),
 (73, ⟨.struct [(0, 3), (1, 3), (2, 32), (3, 56), (5, 37)], 17, 152, [.sc (.int .i64 0), .sc (.int .i64 0), .sl 0 [] true, .sc (.int .i64 0), .sc (.int .i64 0), .arr .u64 12 [0, 0, 0, 0, 0, 0, 0, 0, 0, 0, 0, 0]]⟩),
 (74, ⟨.struct [(0, 3), (1, 3), (2, 32), (3, 56), (5, 37)], 17, 152, [.sc (.int .i64 0), .sc (.int .i64 0), .sl 0 [] true, .sc (.int .i64 0), .sc (.int .i64 0), .arr .u64 12 [0, 0, 0, 0, 0, 0, 0, 0, 0, 0, 0, 0]]⟩),
 (75, ⟨.other, 1, 8, [.sc .nilFunc]⟩),
 (76, ⟨.ptr 126, 1, 8, [.sc (.pointer none)]⟩),
 (77, ⟨.other, 1, 8, [.sc .nilFunc]⟩),
 (79, ⟨.other, 1, 8, [.sc .nilFunc]⟩),
 (80, ⟨.other, 1, 8, [.sc .nilFunc]⟩),
 (81, ⟨.other, 1, 8, [.sc .nilFunc]⟩),
 (82, ⟨.other, 1, 8, [.sc .nilFunc]⟩),
 (83, ⟨.other, 1, 8, [.sc .nilFunc]⟩),
 (84, ⟨.slice 88, 1, 24, [.sl 0 [] true]⟩),
 (85, ⟨.slice 90, 1, 24, [.sl 0 [] true]⟩),
 (86, ⟨.struct [(0, 30), (4, 84), (5, 85), (6, 85)], 7, 120, [.sc (.int .i64 0), .sc (.int .i64 0), .sc (.int .i64 0), .sl 0 [] true, .sl 0 [] true, .sl 0 [] true, .sl 0 [] true]⟩),
 (87, ⟨.struct [(0, 30), (4, 84), (5, 85), (6, 85)], 7, 120, [.sc (.int .i64 0), .sc (.int .i64 0), .sc (.int .i64 0), .sl 0 [] true, .sl 0 [] true, .sl 0 [] true, .sl 0 [] true]⟩),
 (88, ⟨.ptr 137, 1, 8, [.sc (.pointer none)]⟩),
 (89, ⟨.other, 1, 8, [.sc .nilFunc]⟩),
 (90, ⟨.ptr 140, 1, 8, [.sc (.pointer none)]⟩),
 (91, ⟨.other, 1, 8, [.sc .nilFunc]⟩),
 (92, ⟨.other, 1, 8, [.sc .nilFunc]⟩),
 (93, ⟨.other, 1, 8, [.sc .nilFunc]⟩),
 (94, ⟨.other, 1, 8, [.sc .nilFunc]⟩),
 (95, ⟨.other, 1, 8, [.sc .nilFunc]⟩),
 (96, ⟨.other, 1, 8, [.sc .nilFunc]⟩),
 (97, ⟨.other, 1, 8, [.sc .nilFunc]⟩),
 (99, ⟨.other, 1, 8, [.sc .nilFunc]⟩),
 (100, ⟨.other, 1, 8, [.sc .nilFunc]⟩),
 (101, ⟨.slice 45, 1, 24, [.sl 0 [] true]⟩),
 (102, ⟨.other, 1, 8, [.sc .nilFunc]⟩),
 (103, ⟨.ptr 105, 1, 8, [.sc (.pointer none)]⟩),
 (104, ⟨.struct [(0, 32), (1, 3), (2, 4)], 3, 40, [.sl 0 [] true, .sc (.int .i64 0), .sc (.bool false)]⟩),
 (105, ⟨.struct [(0, 32), (1, 3), (2, 4)], 3, 40, [.sl 0 [] true, .sc (.int .i64 0), .sc (.bool false)]⟩),
 (106, ⟨.other, 1, 8, [.sc .nilFunc]⟩),
 (107, ⟨.other, 1, 8, [.sc .nilFunc]⟩),
 (108, ⟨.other, 1, 8, [.sc .nilFunc]⟩),
 (109, ⟨.other, 1, 8, [.sc .nilFunc]⟩),
 (110, ⟨.other, 1, 8, [.sc .nilFunc]⟩),
 (111, ⟨.other, 1, 8, [.sc .nilFunc]⟩),
 (112, ⟨.slice 56, 1, 24, [.sl 0 [] true]⟩),
 (113, ⟨.other, 1, 8, [.sc .nilFunc]⟩),
 (114, ⟨.other, 1, 8, [.sc .nilFunc]⟩),
 (115, ⟨.struct [(0, 56), (2, 37)], 14, 112, [.sc (.int .i64 0), .sc (.int .i64 0), .arr .u64 12 [0, 0, 0, 0, 0, 0, 0, 0, 0, 0, 0, 0]]⟩),
 (116, ⟨.struct [(0, 56), (2, 37)], 14, 112, [.sc (.int .i64 0), .sc (.int .i64 0), .arr .u64 12 [0, 0, 0, 0, 0, 0, 0, 0, 0, 0, 0, 0]]⟩),
 (117, ⟨.slice 116, 1, 24, [.sl 0 [] true]⟩),
 (119, ⟨.other, 1, 8, [.sc .nilFunc]⟩),
 (120, ⟨.other, 1, 8, [.sc .nilFunc]⟩),
 (121, ⟨.other, 1, 8, [.sc .nilFunc]⟩),
 (122, ⟨.other, 1, 8, [.sc .nilFunc]⟩),
 (123, ⟨.slice 130, 1, 24, [.sl 0 [] true]⟩),
 (124, ⟨.slice 165, 1, 24, [.sl 0 [] true]⟩),
 (125, ⟨.struct [(0, 30), (4, 123), (5, 124), (6, 124)], 7, 120, [.sc (.int .i64 0), .sc (.int .i64 0), .sc (.int .i64 0), .sl 0 [] true, .sl 0 [] true, .sl 0 [] true, .sl 0 [] true]⟩),
 (126, ⟨.struct [(0, 30), (4, 123), (5, 124), (6, 124)], 7, 120, [.sc (.int .i64 0), .sc (.int .i64 0), .sc (.int .i64 0), .sl 0 [] true, .sl 0 [] true, .sl 0 [] true, .sl 0 [] true]⟩),
 (127, ⟨.slice 198, 1, 24, [.sl 0 [] true]⟩),
 (128, ⟨.struct [(0, 3), (1, 43), (2, 127), (3, 4)], 4, 64, [.sc (.int .i64 0), .sl 0 [] true, .sl 0 [] true, .sc (.bool false)]⟩),
 (129, ⟨.struct [(0, 3), (1, 43), (2, 127), (3, 4)], 4, 64, [.sc (.int .i64 0), .sl 0 [] true, .sl 0 [] true, .sc (.bool false)]⟩),
 (130, ⟨.ptr 129, 1, 8, [.sc (.pointer none)]⟩),
 (131, ⟨.other, 1, 8, [.sc .nilFunc]⟩),
 (132, ⟨.other, 1, 8, [.sc .nilFunc]⟩),
 (133, ⟨.other, 1, 8, [.sc (.map none)]⟩),
 (134, ⟨.other, 1, 8, [.sc .nilFunc]⟩),
 (135, ⟨.slice 150, 1, 24, [.sl 0 [] true]⟩),
 (136, ⟨.struct [(0, 3), (1, 43), (2, 135), (3, 4)], 4, 64, [.sc (.int .i64 0), .sl 0 [] true, .sl 0 [] true, .sc (.bool false)]⟩),
 (137, ⟨.struct [(0, 3), (1, 43), (2, 135), (3, 4)], 4, 64, [.sc (.int .i64 0), .sl 0 [] true, .sl 0 [] true, .sc (.bool false)]⟩),
 (138, ⟨.other, 1, 8, [.sc (.chan none)]⟩),
 (139, ⟨.struct [(0, 138)], 1, 8, [.sc (.chan none)]⟩),
 (140, ⟨.struct [(0, 138)], 1, 8, [.sc (.chan none)]⟩),
 (141, ⟨.ptr 143, 1, 8, [.sc (.pointer none)]⟩),
 (142, ⟨.struct [(0, 32), (1, 4)], 2, 32, [.sl 0 [] true, .sc (.bool false)]⟩),
 (143, ⟨.struct [(0, 32), (1, 4)], 2, 32, [.sl 0 [] true, .sc (.bool false)]⟩),
 (144, ⟨.other, 1, 8, [.sc .nilFunc]⟩),
 (146, ⟨.other, 1, 8, [.sc .nilFunc]⟩),
 (148, ⟨.other, 1, 8, [.sc .nilFunc]⟩),
 (149, ⟨.other, 1, 8, [.sc .nilFunc]⟩),
 (150, ⟨.ptr 155, 1, 8, [.sc (.pointer none)]⟩),
 (151, ⟨.other, 1, 8, [.sc .nilFunc]⟩),
 (152, ⟨.other, 1, 8, [.sc .nilFunc]⟩),
 (153, ⟨.slice 42, 1, 24, [.sl 0 [] true]⟩),
 (154, ⟨.struct [(0, 3), (1, 153), (2, 4)], 3, 40, [.sc (.int .i64 0), .sl 0 [] true, .sc (.bool false)]⟩),
 (155, ⟨.struct [(0, 3), (1, 153), (2, 4)], 3, 40, [.sc (.int .i64 0), .sl 0 [] true, .sc (.bool false)]⟩),
 (156, ⟨.other, 1, 8, [.sc .nilFunc]⟩),
 (157, ⟨.other, 1, 8, [.sc .nilFunc]⟩),
 (158, ⟨.other, 1, 8, [.sc .nilFunc]⟩),
 (159, ⟨.other, 1, 8, [.sc .nilFunc]⟩),
 (160, ⟨.other, 1, 8, [.sc .nilFunc]⟩),
 (161, ⟨.other, 1, 8, [.sc .nilFunc]⟩),
 (162, ⟨.other, 1, 8, [.sc .nilFunc]⟩),
 (164, ⟨.other, 1, 8, [.sc .nilFunc]⟩),
 (165, ⟨.slice 32, 1, 24, [.sl 0 [] true]⟩),
 (166, ⟨.other, 1, 8, [.sc .nilFunc]⟩),
 (167, ⟨.slice 37, 1, 24, [.sl 0 [] true]⟩),
 (169, ⟨.other, 1, 8, [.sc .nilFunc]⟩),
 (170, ⟨.other, 1, 8, [.sc .nilFunc]⟩),
 (171, ⟨.ptr 173, 1, 8, [.sc (.pointer none)]⟩),
 (172, ⟨.struct [(0, 32)], 1, 24, [.sl 0 [] true]⟩),
 (173, ⟨.struct [(0, 32)], 1, 24, [.sl 0 [] true]⟩),
 (174, ⟨.other, 1, 8, [.sc .nilFunc]⟩),
 (175, ⟨.other, 1, 8, [.sc .nilFunc]⟩),
 (176, ⟨.other, 1, 8, [.sc .nilFunc]⟩),
 (177, ⟨.other, 1, 8, [.sc .nilFunc]⟩),
 (178, ⟨.other, 1, 8, [.sc .nilFunc]⟩),
 (179, ⟨.other, 1, 8, [.sc .nilFunc]⟩),
 (180, ⟨.other, 1, 8, [.sc .nilFunc]⟩),
 (181, ⟨.other, 1, 8, [.sc .nilFunc]⟩),
 (182, ⟨.other, 1, 8, [.sc .nilFunc]⟩),
 (184, ⟨.other, 1, 8, [.sc .nilFunc]⟩),
 (185, ⟨.other, 1, 8, [.sc .nilFunc]⟩),
 (186, ⟨.other, 1, 8, [.sc .nilFunc]⟩),
 (187, ⟨.other, 1, 8, [.sc .nilFunc]⟩),
 (188, ⟨.other, 1, 8, [.sc .nilFunc]⟩),
 (189, ⟨.other, 1, 8, [.sc .nilFunc]⟩),
 (190, ⟨.other, 1, 8, [.sc .nilFunc]⟩),
 (191, ⟨.other, 1, 8, [.sc .nilFunc]⟩),
 (193, ⟨.other, 1, 8, [.sc .nilFunc]⟩),
 (195, ⟨.other, 1, 8, [.sc .nilFunc]⟩),
 (196, ⟨.other, 1, 8, [.sc .nilFunc]⟩),
 (197, ⟨.struct [(0, 3), (1, 153), (2, 4)], 3, 40, [.sc (.int .i64 0), .sl 0 [] true, .sc (.bool false)]⟩),
 (198, ⟨.struct [(0, 3), (1, 153), (2, 4)], 3, 40, [.sc (.int .i64 0), .sl 0 [] true, .sc (.bool false)]⟩),
 (199, ⟨.other, 1, 8, [.sc .nilFunc]⟩),
 (200, ⟨.other, 1, 8, [.sc .nilFunc]⟩),
 (201, ⟨.int .u64, 1, 8, [.sc (.int .u64 0)]⟩),
 (202, ⟨.other, 1, 8, [.sc .nilFunc]⟩),
 (203, ⟨.other, 1, 8, [.sc .nilFunc]⟩),
 (204, ⟨.arr 3 3, 3, 24, [.arr .i64 3 [0, 0, 0]]⟩),
 (205, ⟨.other, 1, 8, [.sc .nilFunc]⟩),
 (207, ⟨.other, 1, 8, [.sc .nilFunc]⟩),
 (208, ⟨.slice 3, 1, 24, [.sl 0 [] true]⟩),
 (209, ⟨.other, 1, 8, [.sc .nilFunc]⟩),
 (210, ⟨.struct [(0, 9), (1, 3)], 2, 24, [.sc (.string ⟨#[]⟩), .sc (.int .i64 0)]⟩),
 (211, ⟨.struct [(0, 9), (1, 3)], 2, 24, [.sc (.string ⟨#[]⟩), .sc (.int .i64 0)]⟩),
 (212, ⟨.arr 12 211, 24, 288, [.sc (.string ⟨#[]⟩), .sc (.int .i64 0), .sc (.string ⟨#[]⟩), .sc (.int .i64 0), .sc (.string ⟨#[]⟩), .sc (.int .i64 0), .sc (.string ⟨#[]⟩), .sc (.int .i64 0), .sc (.string ⟨#[]⟩), .sc (.int .i64 0), .sc (.string ⟨#[]⟩), .sc (.int .i64 0), .sc (.string ⟨#[]⟩), .sc (.int .i64 0), .sc (.string ⟨#[]⟩), .sc (.int .i64 0), .sc (.string ⟨#[]⟩), .sc (.int .i64 0), .sc (.string ⟨#[]⟩), .sc (.int .i64 0), .sc (.string ⟨#[]⟩), .sc (.int .i64 0), .sc (.string ⟨#[]⟩), .sc (.int .i64 0)]⟩),
 (213, ⟨.other, 1, 8, [.sc .nilFunc]⟩),
 (214, ⟨.other, 1, 8, [.sc .nilFunc]⟩),
 (215, ⟨.other, 1, 8, [.sc .nilFunc]⟩),
 (216, ⟨.ptr 70, 1, 8, [.sc (.pointer none)]⟩),
 (217, ⟨.other, 1, 8, [.sc .nilFunc]⟩),
 (218, ⟨.other, 1, 8, [.sc .nilFunc]⟩),
 (219, ⟨.other, 1, 8, [.sc .nilFunc]⟩),
 (220, ⟨.other, 1, 8, [.sc .nilFunc]⟩),
 (221, ⟨.slice 4, 1, 24, [.sl 0 [] true]⟩),
 (222, ⟨.other, 1, 8, [.sc .nilFunc]⟩),
 (223, ⟨.other, 1, 8, [.sc .nilFunc]⟩),
 (224, ⟨.other, 1, 8, [.sc .nilFunc]⟩),
 (225, ⟨.other, 1, 8, [.sc .nilFunc]⟩),
 (227, ⟨.other, 1, 8, [.sc .nilFunc]⟩),
 (228, ⟨.other, 1, 8, [.sc .nilFunc]⟩),
 (229, ⟨.other, 1, 8, [.sc .nilFunc]⟩),
 (230, ⟨.other, 1, 8, [.sc .nilFunc]⟩),
 (231, ⟨.other, 1, 8, [.sc .nilFunc]⟩),
 (232, ⟨.other, 1, 8, [.sc .nilFunc]⟩),
 (234, ⟨.other, 1, 8, [.sc .nilFunc]⟩),
 (235, ⟨.other, 1, 8, [.sc .nilFunc]⟩),
 (236, ⟨.other, 1, 8, [.sc .nilFunc]⟩),
 (237, ⟨.other, 1, 8, [.sc .nilFunc]⟩),
 (238, ⟨.other, 1, 8, [.sc .nilFunc]⟩),
 (239, ⟨.slice 35, 1, 24, [.sl 0 [] true]⟩),
 (240, ⟨.other, 1, 8, [.sc .nilFunc]⟩),
 (241, ⟨.other, 1, 8, [.sc .nilFunc]⟩),
 (242, ⟨.other, 1, 8, [.sc .nilFunc]⟩),
 (248, ⟨.int .u32, 1, 4, [.sc (.int .u32 0)]⟩),
 (251, ⟨.other, 1, 8, [.sc .nilFunc]⟩),
 (252, ⟨.ptr 5, 1, 8, [.sc (.pointer none)]⟩)]
theorem tab_ok : tab.ok Tryz.prog := Tab.ok_of (by kernel_rfl)
theorem mixed : Tryz.prog.follows .mixedOrders = true := by kernel_rfl
end Go.Proofs.YtembchgiajidaaaGreat
namespace Go.Proofs.YtembchgiajidaaaGreat
open Go.Sh
instance : Ok Tryz.prog tab := ⟨tab_ok, mixed⟩
theorem wrap_eq {n : Int} (h1 : -9223372036854775808 ≤ n) (h2 : n ≤ 9223372036854775807) : IntKind.i64.wrap n = n := by
 rw [IntKind.wrap_i64]; omega
theorem ixO_lt {α : Type} {xs : List α} {i : Nat} (h : i < xs.length) : ixO xs (i : Int) = some xs[i] := by
 unfold ixO
 rw [if_pos (by omega), Int.toNat_natCast, List.getElem?_eq_getElem h]
theorem fitO_eq {α : Type} {n b : Nat} {r : Option α} (h : n * b ≤ 140737488355328) : fitO n b r = r := by
 unfold fitO; rw [if_pos h]
theorem reqO_eq {α : Type} {b : Bool} {r : Option α} (h : b = true) : reqO b r = r := by
 subst h; rfl
def zipAll {α β : Type} (f : α → β → Bool) : List α → List β → Bool
 | [], [] => true
 | x :: l, y :: r => f x y && zipAll f l r
 | _, _ => false
theorem zipAll_beq {α : Type} [DecidableEq α] : ∀ (l r : List α), zipAll (fun x y => x == y) l r = (l == r)
 | [], [] => rfl
 | x :: l, y :: r => by
   rw [zipAll, zipAll_beq l r]
   rfl
 | [], _ :: _ => rfl
 | _ :: _, [] => rfl
theorem cmp_loop {α β ε ρ : Type} {e : ε} {v : ρ} (L : List α → Nat → Option (Sum ε ρ)) (s2 : List β) (f : α → β → Bool) (h0 : ∀ i, L [] i = some (.inl e)) (h1 : ∀ x rest i, L (x :: rest) i = (ixO s2 ((i : Nat) : Int)).bind fun x1 => bif (!(f x x1)) then some (.inr v) else L rest (i + 1)) :
  ∀ (l : List α) (i : Nat), l.length + i = s2.length → L l i = some (if zipAll f l (s2.drop i) then .inl e else .inr v)
 | [], i, q => by
   rw [h0, List.drop_eq_nil_of_le (by simp at q; omega)]
   rfl
 | x :: l, i, q => by
   have hlt : i < s2.length := by simp at q; omega
   rw [h1, ixO_lt hlt, Option.bind_some, cmp_loop L s2 f h0 h1 l (i + 1) (by simp at q; omega), List.drop_eq_getElem_cons hlt, zipAll]
   cases f x s2[i]
   ·rfl
   ·simp only [Bool.not_true, cond_false, Bool.true_and]
theorem len_bne {α β : Type} (f : α → AV) (g : β → AV) (a : List α) (b : List β) : ((((List.map f a).length : Nat) : Int) != (((List.map g b).length : Nat) : Int)) = !decide (a.length = b.length) := by
 rw [List.length_map, List.length_map]
 by_cases h : a.length = b.length
 ·rw [h]; simp
 ·simp [h]; omega
def sizes : List Int := [16, 48, 48, 16, 12, 4, 32, 32, 8, 8, 12, 12]
def sizeT (n : Int) : Int := if 0 ≤ n ∧ n < 12 then sizes.getD n.toNat 0 else 0
theorem sizeT_cases (n : Int) : (¬ (0 ≤ n ∧ n < 12) ∧ sizeT n = 0) ∨ (0 ≤ n ∧ n < 12 ∧ ∃ k : Nat, n = k ∧ k < 12 ∧ sizeT n = sizes.getD k 0) := by
 by_cases h : 0 ≤ n ∧ n < 12
 ·refine .inr ⟨h.1, h.2, n.toNat, by omega, by omega, ?_⟩
  unfold sizeT; rw [if_pos h]
 ·refine .inl ⟨h, ?_⟩
  unfold sizeT; rw [if_neg h]
theorem sizes_in : ∀ k : Nat, 0 ≤ sizes.getD k 0 ∧ sizes.getD k 0 ≤ 48
 | 0 | 1 | 2 | 3 | 4 | 5 | 6 | 7 | 8 | 9 | 10 | 11 => by decide
 | n + 12 => by
  have : sizes.getD (n + 12) 0 = 0 := rfl
  rw [this]; decide
theorem sizeT_in (n : Int) : 0 ≤ sizeT n ∧ sizeT n ≤ 48 := by
 unfold sizeT
 split
 ·exact sizes_in _
 ·decide
def fitsT (n v : Int) : Bool := decide (v < 2 ^ (sizeT n).toNat)
theorem pow_pos2 (k : Nat) : (0 : Int) < (2 : Int) ^ k := Int.pow_pos (by decide)
structure Act where
 Kind : Int
 Port : Int
 Field : Int
 Value : Int
 deriving DecidableEq, Inhabited
def Act.ch (r : Act) : List AV := [.sc (.int .i64 r.Kind), .sc (.int .i64 r.Port), .sc (.int .i64 r.Field), .sc (.int .u64 r.Value)]
def Act.av (r : Act) : AV := .agg [.sc (.int .i64 r.Kind), .sc (.int .i64 r.Port), .sc (.int .i64 r.Field), .sc (.int .u64 r.Value)]
structure Cube where
 Value : List Int
 Care : List Int
 deriving DecidableEq, Inhabited
def Cube.ch (r : Cube) : List AV := [.arr .u64 12 r.Value, .arr .u64 12 r.Care]
def Cube.av (r : Cube) : AV := .agg [.arr .u64 12 r.Value, .arr .u64 12 r.Care]
structure Rule where
 Match : Cube
 Prio : Int
 Acts : List Act
 Idle : Int
 Hard : Int
 Owner : Int
 Hits : Int
 Quiet : Int
 Age : Int
 deriving DecidableEq, Inhabited
def Rule.ch (r : Rule) : List AV := [.arr .u64 12 r.Match.Value, .arr .u64 12 r.Match.Care, .sc (.int .i64 r.Prio), .sl 60 (List.map Act.av r.Acts) false, .sc (.int .i64 r.Idle), .sc (.int .i64 r.Hard), .sc (.int .i64 r.Owner), .sc (.int .i64 r.Hits), .sc (.int .i64 r.Quiet), .sc (.int .i64 r.Age)]
def Rule.av (r : Rule) : AV := .agg [.arr .u64 12 r.Match.Value, .arr .u64 12 r.Match.Care, .sc (.int .i64 r.Prio), .sl 60 (List.map Act.av r.Acts) false, .sc (.int .i64 r.Idle), .sc (.int .i64 r.Hard), .sc (.int .i64 r.Owner), .sc (.int .i64 r.Hits), .sc (.int .i64 r.Quiet), .sc (.int .i64 r.Age)]
structure Mod where
 Kind : Int
 Match : Cube
 Prio : Int
 Acts : List Act
 Idle : Int
 Hard : Int
 Owner : Int
 Check : Bool
 deriving DecidableEq, Inhabited
def Mod.ch (r : Mod) : List AV := [.sc (.int .i64 r.Kind), .arr .u64 12 r.Match.Value, .arr .u64 12 r.Match.Care, .sc (.int .i64 r.Prio), .sl 60 (List.map Act.av r.Acts) false, .sc (.int .i64 r.Idle), .sc (.int .i64 r.Hard), .sc (.int .i64 r.Owner), .sc (.bool r.Check)]
def Mod.av (r : Mod) : AV := .agg [.sc (.int .i64 r.Kind), .arr .u64 12 r.Match.Value, .arr .u64 12 r.Match.Care, .sc (.int .i64 r.Prio), .sl 60 (List.map Act.av r.Acts) false, .sc (.int .i64 r.Idle), .sc (.int .i64 r.Hard), .sc (.int .i64 r.Owner), .sc (.bool r.Check)]
structure Msg where
 Kind : Int
 Txn : Int
 E : Int
 Mod : Mod
 Port : Int
 Head : List Int
 Rules : List Rule
 deriving DecidableEq, Inhabited
def Msg.ch (r : Msg) : List AV := [.sc (.int .i64 r.Kind), .sc (.int .i64 r.Txn), .sc (.int .i64 r.E), .sc (.int .i64 r.Mod.Kind), .arr .u64 12 r.Mod.Match.Value, .arr .u64 12 r.Mod.Match.Care, .sc (.int .i64 r.Mod.Prio), .sl 60 (List.map Act.av r.Mod.Acts) false, .sc (.int .i64 r.Mod.Idle), .sc (.int .i64 r.Mod.Hard), .sc (.int .i64 r.Mod.Owner), .sc (.bool r.Mod.Check), .sc (.int .i64 r.Port), .arr .u64 12 r.Head, .sl 70 (List.map Rule.av r.Rules) false]
def Msg.av (r : Msg) : AV := .agg [.sc (.int .i64 r.Kind), .sc (.int .i64 r.Txn), .sc (.int .i64 r.E), .sc (.int .i64 r.Mod.Kind), .arr .u64 12 r.Mod.Match.Value, .arr .u64 12 r.Mod.Match.Care, .sc (.int .i64 r.Mod.Prio), .sl 60 (List.map Act.av r.Mod.Acts) false, .sc (.int .i64 r.Mod.Idle), .sc (.int .i64 r.Mod.Hard), .sc (.int .i64 r.Mod.Owner), .sc (.bool r.Mod.Check), .sc (.int .i64 r.Port), .arr .u64 12 r.Head, .sl 70 (List.map Rule.av r.Rules) false]
structure Field where
 name : ByteArray
 size : Int
 deriving DecidableEq, Inhabited
def Field.ch (r : Field) : List AV := [.sc (.string r.name), .sc (.int .i64 r.size)]
def Field.av (r : Field) : AV := .agg [.sc (.string r.name), .sc (.int .i64 r.size)]
structure End where
 Unit : Int
 Port : Int
 deriving DecidableEq, Inhabited
def End.ch (r : End) : List AV := [.sc (.int .i64 r.Unit), .sc (.int .i64 r.Port)]
def End.av (r : End) : AV := .agg [.sc (.int .i64 r.Unit), .sc (.int .i64 r.Port)]
structure Link where
 A : End
 B : End
 deriving DecidableEq, Inhabited
def Link.ch (r : Link) : List AV := [.sc (.int .i64 r.A.Unit), .sc (.int .i64 r.A.Port), .sc (.int .i64 r.B.Unit), .sc (.int .i64 r.B.Port)]
def Link.av (r : Link) : AV := .agg [.sc (.int .i64 r.A.Unit), .sc (.int .i64 r.A.Port), .sc (.int .i64 r.B.Unit), .sc (.int .i64 r.B.Port)]
structure Setup where
 Units : Int
 Ports : Int
 Room : Int
 Links : List Link
 deriving DecidableEq, Inhabited
def Setup.ch (r : Setup) : List AV := [.sc (.int .i64 r.Units), .sc (.int .i64 r.Ports), .sc (.int .i64 r.Room), .sl 58 (List.map Link.av r.Links) false]
def Setup.av (r : Setup) : AV := .agg [.sc (.int .i64 r.Units), .sc (.int .i64 r.Ports), .sc (.int .i64 r.Room), .sl 58 (List.map Link.av r.Links) false]
end Go.Proofs.YtembchgiajidaaaGreat
namespace Go.Proofs.YtembchgiajidaaaGreat
open Go.Sh
structure Writer where
  b : List Int
  deriving DecidableEq, Inhabited
structure Reader where
  b : List Int
  end_ : Bool
  deriving DecidableEq, Inhabited
def Reader.ch (r : Reader) : List AV := [.sl 5 (List.map (intA .u8) r.b) false, .sc (.bool r.end_)]
def Reader.av (r : Reader) : AV := .agg [.sl 5 (List.map (intA .u8) r.b) false, .sc (.bool r.end_)]
structure Eye where
  B : List Int
  At : Int
  Short : Bool
  deriving DecidableEq, Inhabited
def Eye.ch (r : Eye) : List AV := [.sl 5 (List.map (intA .u8) r.B) false, .sc (.int .i64 r.At), .sc (.bool r.Short)]
def Eye.av (r : Eye) : AV := .agg [.sl 5 (List.map (intA .u8) r.B) false, .sc (.int .i64 r.At), .sc (.bool r.Short)]
noncomputable def z93_F : Go.Sh.Fn := ⟨93, bodyOf Tryz.f93, 27⟩
def z93_l0 (n : Int) : Nat → Int → List Int → Option ((List Int))
  | 0, _, _ => none
  | m + 1, k1, o1 =>
    (bif (decide (k1 ≥ 0)) then
    reqO (decide (0 ≤ (IntKind.i64.wrap (8 * k1)))) (
    fitO (o1.length + [(IntKind.u8.wrap (Int.fdiv n (2 ^ (min ((IntKind.i64.wrap (8 * k1)) : Int).toNat (IntKind.u64).bits))))].length) 1 (
    z93_l0 n m (IntKind.i64.wrap (k1 - 1)) (o1 ++ [(IntKind.u8.wrap (Int.fdiv n (2 ^ (min ((IntKind.i64.wrap (8 * k1)) : Int).toNat (IntKind.u64).bits))))])))
  else
    some o1)
theorem z93_l0_walk (q0 : Nat) (w1 : Writer) (n : Int) (size : Int)  (r : Writer) (c0 : Ctx) (hc0 : c0.m.length = 2) (res : (List Int)) (J : AX Tryz.prog tab z93_F c0 (Rp tab.S c0 (.tup []) [.box 173 [.own 1 1000000], .row 5 (List.map (intA .u8) r.b) 1000000 true]) (some ⟨[], [], [.box 173 [.own 1 1000000], .row 5 (List.map (intA .u8) res) 1000000 true]⟩)) :
    ∀ (m : Nat) (k1 : Int) (o1 : List Int) (H : z93_l0 n m k1 o1 = some res), AX Tryz.prog tab z93_F c0 (Rp tab.S c0 (.tup []) [.box 173 [.own 1 1000000], .row 5 (List.map (intA .u8) r.b) 1000000 true]) (some ⟨[.code [1, 0, 0], .loop [1, 0], .blk 0], [(0, .ptr 0 0 none), (1, .sc (.int .u64 n)), (6, .sc (.int .i64 k1))], [.box 173 [.own 1 1000000], .row 5 (List.map (intA .u8) o1) 1000000 true]⟩) := by
  intro m
  induction m with
  | zero => intro k1 o1 H; cases H
  | succ m ih =>
    intro k1 o1 H
    rw [z93_l0] at H
    refine .sg 3 [0,1,6,10] (.cd (decide (k1 ≥ 0)) H (fun hb H => ?_) (fun hb H => ?_))
    ·
      exact .sg 3 [0,1,6] (.rg (.sg 8 [0,1,6,13,17,18,20] (reqH H fun hreq H => (.sr_ [0,1,6,13,17,21] (b := (IntKind.i64.wrap (8 * k1))) hreq (.sg 2 [0,1,6,13,17,23] (fitH H fun hfit H => (.ap [0,1,6,13,24] (intA .u8) hfit (.sg 3 [0,1,6] (.dn (.sg 2 [0,1,6] (.tl hc0 [0,1] [0,1,6] (.into (.to (ih (IntKind.i64.wrap (k1 - 1)) (o1 ++ [(IntKind.u8.wrap (Int.fdiv n (2 ^ (min ((IntKind.i64.wrap (8 * k1)) : Int).toNat (IntKind.u64).bits))))]) H))))))))))))))
    ·
      refine .sg 1 [] (.kp [] ?_)
      obtain rfl := Option.some.inj H
      exact .to J
def z93_raw (q0 : Nat) (w1 : Writer) (n : Int) (size : Int) : Option (Writer) :=
  (z93_l0 n q0 (IntKind.i64.wrap (size - 1)) w1.b).bind fun v =>
  some ({ b := v } : Writer)
theorem z93_walk (q0 : Nat) (w1 : Writer) (n : Int) (size : Int) (r : Writer) (H : z93_raw q0 w1 n size = some r) : ACalls Tryz.prog tab.S 93 [.ptr 0 0 none, .sc (.int .u64 n), .sc (.int .i64 size)] [.box 173 [.own 1 1000000], .row 5 (List.map (intA .u8) w1.b) 1000000 true] (.tup []) [.box 173 [.own 1 1000000], .row 5 (List.map (intA .u8) r.b) 1000000 true] := by
  refine .of_AX z93_F Tryz.func93 fun c0 hc0 => ?_
  rw [z93_raw] at H
  refine .sg 3 [0,1,6] ?_
  refine bndO H fun v hv H => (.into (.to (z93_l0_walk q0 w1 n size r c0 hc0 v ?_ q0 (IntKind.i64.wrap (size - 1)) w1.b hv)))
  obtain rfl := Option.some.inj H
  exact .ret Tryz.func93 hc0 [0,1]
def beB (n : Int) : Nat → List Int
  | 0 => []
  | k + 1 => IntKind.u8.wrap (Int.fdiv n (2 ^ (8 * k))) :: beB n k
theorem put_l0_eq (n : Int) : ∀ (k : Nat) (o : List Int), k ≤ 8 → o.length + k ≤ 140737488355328 → z93_l0 n (k + 1) ((k : Int) - 1) o = some (o ++ beB n k)
  | 0, o, _, _ => by
    rw [z93_l0, decide_eq_false (by omega), cond_false, beB, List.append_nil]
  | k + 1, o, h, hl => by
    have hw : IntKind.i64.wrap (8 * (((k + 1 : Nat) : Int) - 1)) = ((8 * k : Nat) : Int) := by rw [wrap_eq (by omega) (by omega)]; omega
    have hw2 : IntKind.i64.wrap (((k + 1 : Nat) : Int) - 1 - 1) = (k : Int) - 1 := by rw [wrap_eq (by omega) (by omega)]; omega
    have hm : min (8 * k) (IntKind.u64).bits = 8 * k := Nat.min_eq_left (by show 8 * k ≤ 64; omega)
    rw [z93_l0, decide_eq_true (by omega), cond_true, hw, reqO_eq (decide_eq_true (by omega)), fitO_eq (by simp only [List.length_singleton]; omega), Int.toNat_natCast, hm, hw2, put_l0_eq n k _ (by omega) (by simp only [List.length_append, List.length_singleton]; omega), beB, List.append_assoc]
    rfl
def putW (w : Writer) (n size : Int) : Option Writer := if 0 ≤ size ∧ size ≤ 8 ∧ w.b.length + 8 ≤ 140737488355328 then some ⟨w.b ++ beB n size.toNat⟩ else none
theorem put_eq (w : Writer) (n size : Int) (r : Writer) (H : putW w n size = some r) : z93_raw (size.toNat + 1) w n size = some r := by
  unfold putW at H
  split at H
  · rename_i h
    obtain ⟨h1, h2, h3⟩ := h
    injection H with H
    subst H
    have hw : IntKind.i64.wrap (size - 1) = (size.toNat : Int) - 1 := by rw [wrap_eq (by omega) (by omega)]; omega
    rw [z93_raw, hw, put_l0_eq n size.toNat w.b (by omega) (by omega)]
    rfl
  · cases H
theorem z93_ok (w1 : Writer) (n : Int) (size : Int) (r : Writer) (H : putW w1 n size = some r) : ACalls Tryz.prog tab.S 93 [.ptr 0 0 none, .sc (.int .u64 n), .sc (.int .i64 size)] [.box 173 [.own 1 1000000], .row 5 (List.map (intA .u8) w1.b) 1000000 true] (.tup []) [.box 173 [.own 1 1000000], .row 5 (List.map (intA .u8) r.b) 1000000 true] :=
 z93_walk (size.toNat + 1) w1 n size r (put_eq w1 n size r H)
noncomputable def z95_F : Go.Sh.Fn := ⟨95, bodyOf Tryz.f95, 14⟩
def z95_l0s (h1 : List Int) : Nat → Nat → List Int → Option ((List Int))
  | 0, t7, o1 =>
    some o1
  | rest + 1, t7, o1 =>
    (putW ({ b := o1 } : Writer) (h1.getD t7 0) 8).bind fun v =>
    z95_l0s h1 rest (t7 + 1) v.b
theorem z95_l0_walk (w1 : Writer) (h1 : List Int) (r : Writer) (c0 : Ctx) (hc0 : c0.m.length = 2) (res : (List Int)) (J : AX Tryz.prog tab z95_F c0 (Rp tab.S c0 (.tup []) [.box 173 [.own 1 1000000], .row 5 (List.map (intA .u8) r.b) 1000000 true]) (some ⟨[], [], [.box 173 [.own 1 1000000], .row 5 (List.map (intA .u8) res) 1000000 true, .box 37 [.arr .u64 12 h1]]⟩)) :
    ∀ (rest : Nat) (t7 : Nat) (z : Int) (hI : z = ((t7 : Nat) : Int)) (hd : t7 + rest = 12) (o1 : List Int) (H : z95_l0s h1 rest t7 o1 = some res), AX Tryz.prog tab z95_F c0 (Rp tab.S c0 (.tup []) [.box 173 [.own 1 1000000], .row 5 (List.map (intA .u8) r.b) 1000000 true]) (some ⟨[.code [1, 1, 0, 0], .loop [1, 1, 0], .blk 0], [(0, .ptr 0 0 none), (6, .arr .u64 12 h1), (7, .sc (.int .i64 z))], [.box 173 [.own 1 1000000], .row 5 (List.map (intA .u8) o1) 1000000 true, .box 37 [.arr .u64 12 h1]]⟩) := by
  intro rest
  induction rest with
  | zero =>
    intro t7 z hI hd o1 H
    subst hI
    rw [z95_l0s] at H
    have hc : (decide (((t7 : Nat) : Int) < 12)) = false := decide_eq_false (by omega)
    refine .sg 3 [0,6,7,8] (.cdF hc (.sg 1 [] (.kp [] ?_)))
    obtain rfl := Option.some.inj H
    exact .to J
  | succ rest ih =>
    intro t7 z hI hd o1 H
    subst hI
    rw [z95_l0s] at H
    have hlt_t7 : t7 < 12 := by omega
    have hc : (decide (((t7 : Nat) : Int) < 12)) = true := decide_eq_true (by omega)
    have hw : IntKind.i64.wrap (((t7 : Nat) : Int) + 1) = ((t7 + 1 : Nat) : Int) := wrapI_succ (by omega)
    refine .sg 3 [0,6,7,8] (.cdT hc (.sg 4 [0,6,7] (.rg ?_)))
    have hreq := idx_in 12 hlt_t7 (by decide)
    exact .xv [0,6,7,9] hreq (.sg 1 [0,5,6,7] (.dn (.rg (.sg 2 [0,6,7,10,11] (bndO H fun v hv H => (.ch [0,6,7] [0,1] (z93_ok _ _ _ v hv) (.dn (.sg 2 [0,6,7] (.tl hc0 [0,1,2] [0,6,7] (.into (.cl (ih (t7 + 1) _ hw (by omega) v.b H))))))))))))
def z95_raw (w1 : Writer) (h1 : List Int) : Option (Writer) :=
  (z95_l0s h1 12 0 w1.b).bind fun v =>
  some ({ b := v } : Writer)
theorem z95_walk (w1 : Writer) (h1 : List Int) (r : Writer) (H : z95_raw w1 h1 = some r) : ACalls Tryz.prog tab.S 95 [.ptr 0 0 none, .arr .u64 12 h1] [.box 173 [.own 1 1000000], .row 5 (List.map (intA .u8) w1.b) 1000000 true] (.tup []) [.box 173 [.own 1 1000000], .row 5 (List.map (intA .u8) r.b) 1000000 true] := by
  refine .of_AX z95_F Tryz.func95 fun c0 hc0 => ?_
  rw [z95_raw] at H
  refine .sg 5 [0,6,7] ?_
  refine bndO H fun v hv H => (.into (.to (z95_l0_walk w1 h1 r c0 hc0 v ?_ 12 0 _ rfl rfl w1.b hv)))
  obtain rfl := Option.some.inj H
  exact .ret Tryz.func95 hc0 [0,1]
noncomputable def z132_F : Go.Sh.Fn := ⟨132, bodyOf Tryz.f132, 37⟩
def z132_l0s : List Act → List Int → Option ((List Int))
  | [], o1 =>
    some o1
  | x :: rest, o1 =>
    (putW ({ b := o1 } : Writer) (IntKind.u64.wrap x.Kind) 1).bind fun v1 =>
    (putW v1 (IntKind.u64.wrap x.Port) 1).bind fun v2 =>
    (putW v2 (IntKind.u64.wrap x.Field) 1).bind fun v3 =>
    (putW v3 x.Value 8).bind fun v4 =>
    z132_l0s rest v4.b
theorem z132_l0_walk (w1 : Writer) (list : List Act) (v : Writer) (f_list : Bool) (r : Writer) (c0 : Ctx) (hc0 : c0.m.length = 2) (res : (List Int)) (J : AX Tryz.prog tab z132_F c0 (Rp tab.S c0 (.tup []) [.box 173 [.own 1 1000000], .row 5 (List.map (intA .u8) r.b) 1000000 true]) (some ⟨[], [], [.box 173 [.own 1 1000000], .row 5 (List.map (intA .u8) res) 1000000 true]⟩)) :
    ∀ (rest : List Act) (t13 : Nat) (z : Int) (hI : z = ((t13 : Nat) : Int)) (hd : list.drop t13 = rest) (o1 : List Int) (H : z132_l0s rest o1 = some res), AX Tryz.prog tab z132_F c0 (Rp tab.S c0 (.tup []) [.box 173 [.own 1 1000000], .row 5 (List.map (intA .u8) r.b) 1000000 true]) (some ⟨[.code [1, 1, 0, 0], .loop [1, 1, 0], .blk 0], [(0, .ptr 0 0 none), (11, .sl 60 (List.map Act.av list) f_list), (12, .sc (.int .i64 (((List.map Act.av list).length : Nat) : Int))), (13, .sc (.int .i64 z))], [.box 173 [.own 1 1000000], .row 5 (List.map (intA .u8) o1) 1000000 true]⟩) := by
  intro rest
  induction rest with
  | nil =>
    intro t13 z hI hd o1 H
    subst hI
    rw [z132_l0s] at H
    refine .facts 11 fun hf => ?_
    have hlen : list.length ≤ 9223372036854775807 := by have hq := len_ok hf.2.1; rw [List.length_map] at hq; exact hq
    have hge : list.length ≤ t13 := List.drop_eq_nil_iff.1 hd
    have hc : (decide (((t13 : Nat) : Int) < (((List.map Act.av list).length : Nat) : Int))) = false := by rw [List.length_map]; exact decide_eq_false (by omega)
    refine .sg 3 [0,11,12,13,14] (.cdF hc (.sg 1 [] (.kp [] ?_)))
    obtain rfl := Option.some.inj H
    exact .to J
  | cons x rest ih =>
    intro t13 z hI hd o1 H
    subst hI
    rw [z132_l0s] at H
    refine .facts 11 fun hf => ?_
    have hlen : list.length ≤ 9223372036854775807 := by have hq := len_ok hf.2.1; rw [List.length_map] at hq; exact hq
    obtain ⟨hlt, hv_t13, hd2⟩ := drop_cons hd
    have hc : (decide (((t13 : Nat) : Int) < (((List.map Act.av list).length : Nat) : Int))) = true := by rw [List.length_map]; exact decide_eq_true (by omega)
    have hw : IntKind.i64.wrap (((t13 : Nat) : Int) + 1) = ((t13 + 1 : Nat) : Int) := wrapI_succ (by omega)
    exact .sg 3 [0,11,12,13,14] (.cdT hc (.sg 4 [0,11,12,13] (.rg (.xi [0,11,12,13,15] Act.av hv_t13 (.sg 3 [0,5,11,12,13] (.dn (.sg 1 [0,5,11,12,13] (.rg (.sg 4 [0,5,11,12,13,17,20] (bndO H fun v1 hv H => (.ch [0,5,11,12,13] [0,1] (z93_ok _ _ _ v1 hv) (.dn (.sg 1 [0,5,11,12,13] (.rg (.sg 4 [0,5,11,12,13,22,25] (bndO H fun v2 hv H => (.ch [0,5,11,12,13] [0,1] (z93_ok _ _ _ v2 hv) (.dn (.sg 1 [0,5,11,12,13] (.rg (.sg 4 [0,5,11,12,13,27,30] (bndO H fun v3 hv H => (.ch [0,5,11,12,13] [0,1] (z93_ok _ _ _ v3 hv) (.dn (.rg (.sg 3 [0,11,12,13,32,34] (bndO H fun v4 hv H => (.ch [0,11,12,13] [0,1] (z93_ok _ _ _ v4 hv) (.dn (.sg 2 [0,11,12,13] (.tl hc0 [0,1] [0,11,12,13] (.into (.cl (ih (t13 + 1) _ hw hd2 v4.b H))))))))))))))))))))))))))))))))))
def z132_raw (w1 : Writer) (list : List Act) : Option (Writer) :=
  (putW w1 (IntKind.u64.wrap (((List.map Act.av list).length : Nat) : Int)) 1).bind fun v =>
  (z132_l0s list v.b).bind fun v1 =>
  some ({ b := v1 } : Writer)
theorem z132_walk (w1 : Writer) (list : List Act) (f_list : Bool) (r : Writer) (H : z132_raw w1 list = some r) : ACalls Tryz.prog tab.S 132 [.ptr 0 0 none, .sl 60 (List.map Act.av list) f_list] [.box 173 [.own 1 1000000], .row 5 (List.map (intA .u8) w1.b) 1000000 true] (.tup []) [.box 173 [.own 1 1000000], .row 5 (List.map (intA .u8) r.b) 1000000 true] := by
  refine .of_AX z132_F Tryz.func132 fun c0 hc0 => ?_
  rw [z132_raw] at H
  refine .sg 1 [0,1] (.rg (.sg 4 [0,1,6,9] (bndO H fun v hv H => (.ch [0,1] [0,1] (z93_ok _ _ _ v hv) (.dn (.sg 3 [0,11,12,13] (.tl hc0 [0,1] [0,11,12,13] ?_)))))))
  refine bndO H fun v1 hv H => (.into (.to (z132_l0_walk w1 list v f_list r c0 hc0 v1 ?_ list 0 _ rfl rfl v.b hv)))
  obtain rfl := Option.some.inj H
  exact .ret Tryz.func132 hc0 [0,1]
noncomputable def z131_F : Go.Sh.Fn := ⟨131, bodyOf Tryz.f131, 36⟩
def z131_raw (w1 : Writer) (c : Cube) (prio : Int) (idle : Int) (hard : Int) (owner : Int) : Option (Writer) :=
  (z95_raw w1 c.Value).bind fun v =>
  (z95_raw v c.Care).bind fun v1 =>
  (putW v1 (IntKind.u64.wrap prio) 2).bind fun v2 =>
  (putW v2 (IntKind.u64.wrap idle) 4).bind fun v3 =>
  (putW v3 (IntKind.u64.wrap hard) 4).bind fun v4 =>
  (putW v4 (IntKind.u64.wrap owner) 1).bind fun v5 =>
  some v5
theorem z131_walk (w1 : Writer) (c : Cube) (prio : Int) (idle : Int) (hard : Int) (owner : Int) (r : Writer) (H : z131_raw w1 c prio idle hard owner = some r) : ACalls Tryz.prog tab.S 131 [.ptr 0 0 none, Cube.av c, .sc (.int .i64 prio), .sc (.int .i64 idle), .sc (.int .i64 hard), .sc (.int .i64 owner)] [.box 173 [.own 1 1000000], .row 5 (List.map (intA .u8) w1.b) 1000000 true] (.tup []) [.box 173 [.own 1 1000000], .row 5 (List.map (intA .u8) r.b) 1000000 true] := by
  refine .of_AX z131_F Tryz.func131 fun c0 hc0 => ?_
  rw [z131_raw] at H
  refine .sg 3 [0,2,3,4,5,7] (.rg (.sg 3 [0,2,3,4,5,7,12,14] (bndO H fun v hv H => (.ch [0,2,3,4,5,7] [0,1] (z95_walk _ _ v hv) (.dn (.sg 1 [0,2,3,4,5,7] (.rg (.sg 3 [0,2,3,4,5,16,18] (bndO H fun v1 hv H => (.ch [0,2,3,4,5] [0,1] (z95_walk _ _ v1 hv) (.dn (.sg 1 [0,2,3,4,5] (.rg (.sg 3 [0,3,4,5,20,22] (bndO H fun v2 hv H => (.ch [0,3,4,5] [0,1] (z93_ok _ _ _ v2 hv) (.dn (.sg 1 [0,3,4,5] (.rg (.sg 3 [0,4,5,24,26] (bndO H fun v3 hv H => (.ch [0,4,5] [0,1] (z93_ok _ _ _ v3 hv) (.dn (.sg 1 [0,4,5] (.rg (.sg 3 [0,5,28,30] (bndO H fun v4 hv H => (.ch [0,5] [0,1] (z93_ok _ _ _ v4 hv) (.dn (.rg (.sg 3 [32,34] (bndO H fun v5 hv H => (.ch [] [0,1] (z93_ok _ _ _ v5 hv) (.dn ?_))))))))))))))))))))))))))))))))))
  obtain rfl := Option.some.inj H
  exact .ret Tryz.func131 hc0 [0,1]
noncomputable def z94_F : Go.Sh.Fn := ⟨94, bodyOf Tryz.f94, 31⟩
def z94_raw (w1 : Writer) (m1 : Mod) : Option (Writer) :=
  (putW w1 (IntKind.u64.wrap m1.Kind) 1).bind fun v =>
  (z131_raw v m1.Match m1.Prio m1.Idle m1.Hard m1.Owner).bind fun v1 =>
  (putW v1 (bif m1.Check then (1 : Int) else 0) 1).bind fun v2 =>
  (z132_raw v2 m1.Acts).bind fun v3 =>
  some v3
theorem z94_walk (w1 : Writer) (m1 : Mod) (r : Writer) (H : z94_raw w1 m1 = some r) : ACalls Tryz.prog tab.S 94 [.ptr 0 0 none, Mod.av m1] [.box 173 [.own 1 1000000], .row 5 (List.map (intA .u8) w1.b) 1000000 true] (.tup []) [.box 173 [.own 1 1000000], .row 5 (List.map (intA .u8) r.b) 1000000 true] := by
  refine .of_AX z94_F Tryz.func94 fun c0 hc0 => ?_
  rw [z94_raw] at H
  refine .sg 3 [0,3] (.rg (.sg 4 [0,3,5,8] (bndO H fun v hv H => (.ch [0,3] [0,1] (z93_ok _ _ _ v hv) (.dn (.sg 1 [0,3] (.rg (.sg 11 [0,3,10,12,14,16,18,20] (bndO H fun v1 hv H => (.ch [0,3] [0,1] (z131_walk _ _ _ _ _ _ v1 hv) (.dn (.sg 5 [0,3,4,23] (.jn m1.Check [0, 3, 4] (fun z => [(4, .sc (.int .u64 (bif z then (1 : Int) else 0)))]) ?J1 (fun hb J => ?ht1) (fun hb J => ?hf1))))))))))))))
  case ht1 =>
    exact .sg 1 [0,3,4] (.cl J)
  case hf1 =>
    exact .sg 1 [0,3,4] (.cl J)
  refine .sg 1 [0,3,4] (.rg (.sg 2 [0,3,24,25] (bndO H fun v2 hv H => (.ch [0,3] [0,1] (z93_ok _ _ _ v2 hv) (.dn (.rg (.sg 3 [27,29] (bndO H fun v3 hv H => (.ch [] [0,1] (z132_walk _ _ false v3 hv) (.dn ?_))))))))))
  obtain rfl := Option.some.inj H
  exact .ret Tryz.func94 hc0 [0,1]
noncomputable def z96_F : Go.Sh.Fn := ⟨96, bodyOf Tryz.f96, 51⟩
def z96_l1s (x : Rule) : Nat → Nat → List Int → Option ((List Int))
  | 0, t38, o11 =>
    some o11
  | rest1 + 1, t38, o11 =>
    (putW ({ b := o11 } : Writer) (IntKind.u64.wrap ([x.Hits, x.Quiet, x.Age].getD t38 0)) 8).bind fun v2 =>
    z96_l1s x rest1 (t38 + 1) v2.b
theorem z96_l1_walk (w1 : Writer) (list : List Rule) (v : Writer) (t15 : Nat) (o1 : List Int) (x : Rule) (hv_t15 : ixO list ((t15 : Nat) : Int) = some x) (v1 : Writer) (f_list : Bool) (r : Writer) (c0 : Ctx) (hc0 : c0.m.length = 2) (res : (List Int)) (J : AX Tryz.prog tab z96_F c0 (Rp tab.S c0 (.tup []) [.box 173 [.own 1 1000000], .row 5 (List.map (intA .u8) r.b) 1000000 true]) (some ⟨[.code [1, 1, 0, 0, 1, 1, 0, 0, 1, 1, 1], .blk 1, .code [1, 1, 0, 0, 1, 1, 1], .loop [1, 1, 0], .blk 0], [(0, .ptr 0 0 none), (5, .ptr 2 0 none), (13, .sl 70 (List.map Rule.av list) f_list), (14, .sc (.int .i64 (((List.map Rule.av list).length : Nat) : Int))), (15, .sc (.int .i64 ((t15 : Nat) : Int)))], [.box 173 [.own 1 1000000], .row 5 (List.map (intA .u8) res) 1000000 true, .box 70 (Rule.ch x)]⟩)) :
    ∀ (rest1 : Nat) (t38 : Nat) (z : Int) (hI : z = ((t38 : Nat) : Int)) (hd : t38 + rest1 = 3) (o11 : List Int) (H : z96_l1s x rest1 t38 o11 = some res), AX Tryz.prog tab z96_F c0 (Rp tab.S c0 (.tup []) [.box 173 [.own 1 1000000], .row 5 (List.map (intA .u8) r.b) 1000000 true]) (some ⟨[.code [1, 1, 0, 0, 1, 1, 0, 0, 1, 1, 0, 1, 0, 0], .loop [1, 1, 0, 0, 1, 1, 0, 0, 1, 1, 0, 1, 0], .blk 2, .code [1, 1, 0, 0, 1, 1, 0, 0, 1, 1, 1], .blk 1, .code [1, 1, 0, 0, 1, 1, 1], .loop [1, 1, 0], .blk 0], [(0, .ptr 0 0 none), (5, .ptr 2 0 none), (13, .sl 70 (List.map Rule.av list) f_list), (14, .sc (.int .i64 (((List.map Rule.av list).length : Nat) : Int))), (15, .sc (.int .i64 ((t15 : Nat) : Int))), (37, .arr .i64 3 [x.Hits, x.Quiet, x.Age]), (38, .sc (.int .i64 z))], [.box 173 [.own 1 1000000], .row 5 (List.map (intA .u8) o11) 1000000 true, .box 70 (Rule.ch x)]⟩) := by
  intro rest1
  induction rest1 with
  | zero =>
    intro t38 z hI hd o11 H
    subst hI
    rw [z96_l1s] at H
    have hc : (decide (((t38 : Nat) : Int) < 3)) = false := decide_eq_false (by omega)
    refine .sg 3 [0,5,13,14,15,37,38,39] (.cdF hc (.sg 1 [0,5,13,14,15] (.kp [0,5,13,14,15] ?_)))
    obtain rfl := Option.some.inj H
    exact .to J
  | succ rest1 ih =>
    intro t38 z hI hd o11 H
    subst hI
    rw [z96_l1s] at H
    have hlt_t38 : t38 < 3 := by omega
    have hc : (decide (((t38 : Nat) : Int) < 3)) = true := decide_eq_true (by omega)
    have hw : IntKind.i64.wrap (((t38 : Nat) : Int) + 1) = ((t38 + 1 : Nat) : Int) := wrapI_succ (by omega)
    refine .sg 3 [0,5,13,14,15,37,38,39] (.cdT hc (.sg 4 [0,5,13,14,15,37,38] (.rg ?_)))
    have hreq := idx_in 3 hlt_t38 (by decide)
    exact .xv [0,5,13,14,15,37,38,40] hreq (.sg 1 [0,5,7,13,14,15,37,38] (.dn (.rg (.sg 3 [0,5,13,14,15,37,38,41,43] (bndO H fun v2 hv H => (.ch [0,5,13,14,15,37,38] [0,1] (z93_ok _ _ _ v2 hv) (.dn (.sg 2 [0,5,13,14,15,37,38] (.tl hc0 [0,1,2] [0,5,13,14,15,37,38] (.into (.cl (ih (t38 + 1) _ hw (by omega) v2.b H))))))))))))
def z96_l0s : List Rule → List Int → Option ((List Int))
  | [], o1 =>
    some o1
  | x :: rest, o1 =>
    (z131_raw ({ b := o1 } : Writer) x.Match x.Prio x.Idle x.Hard x.Owner).bind fun v1 =>
    (z96_l1s x 3 0 v1.b).bind fun v2 =>
    (z132_raw ({ b := v2 } : Writer) x.Acts).bind fun v3 =>
    z96_l0s rest v3.b
theorem z96_l0_walk (w1 : Writer) (list : List Rule) (v : Writer) (f_list : Bool) (r : Writer) (c0 : Ctx) (hc0 : c0.m.length = 2) (res : (List Int)) (J : AX Tryz.prog tab z96_F c0 (Rp tab.S c0 (.tup []) [.box 173 [.own 1 1000000], .row 5 (List.map (intA .u8) r.b) 1000000 true]) (some ⟨[], [], [.box 173 [.own 1 1000000], .row 5 (List.map (intA .u8) res) 1000000 true]⟩)) :
    ∀ (rest : List Rule) (t15 : Nat) (z : Int) (hI : z = ((t15 : Nat) : Int)) (hd : list.drop t15 = rest) (o1 : List Int) (H : z96_l0s rest o1 = some res), AX Tryz.prog tab z96_F c0 (Rp tab.S c0 (.tup []) [.box 173 [.own 1 1000000], .row 5 (List.map (intA .u8) r.b) 1000000 true]) (some ⟨[.code [1, 1, 0, 0], .loop [1, 1, 0], .blk 0], [(0, .ptr 0 0 none), (13, .sl 70 (List.map Rule.av list) f_list), (14, .sc (.int .i64 (((List.map Rule.av list).length : Nat) : Int))), (15, .sc (.int .i64 z))], [.box 173 [.own 1 1000000], .row 5 (List.map (intA .u8) o1) 1000000 true]⟩) := by
  intro rest
  induction rest with
  | nil =>
    intro t15 z hI hd o1 H
    subst hI
    rw [z96_l0s] at H
    refine .facts 13 fun hf => ?_
    have hlen : list.length ≤ 9223372036854775807 := by have hq := len_ok hf.2.1; rw [List.length_map] at hq; exact hq
    have hge : list.length ≤ t15 := List.drop_eq_nil_iff.1 hd
    have hc : (decide (((t15 : Nat) : Int) < (((List.map Rule.av list).length : Nat) : Int))) = false := by rw [List.length_map]; exact decide_eq_false (by omega)
    refine .sg 3 [0,13,14,15,16] (.cdF hc (.sg 1 [] (.kp [] ?_)))
    obtain rfl := Option.some.inj H
    exact .to J
  | cons x rest ih =>
    intro t15 z hI hd o1 H
    subst hI
    rw [z96_l0s] at H
    refine .facts 13 fun hf => ?_
    have hlen : list.length ≤ 9223372036854775807 := by have hq := len_ok hf.2.1; rw [List.length_map] at hq; exact hq
    obtain ⟨hlt, hv_t15, hd2⟩ := drop_cons hd
    have hc : (decide (((t15 : Nat) : Int) < (((List.map Rule.av list).length : Nat) : Int))) = true := by rw [List.length_map]; exact decide_eq_true (by omega)
    have hw : IntKind.i64.wrap (((t15 : Nat) : Int) + 1) = ((t15 + 1 : Nat) : Int) := wrapI_succ (by omega)
    refine .sg 3 [0,13,14,15,16] (.cdT hc (.sg 4 [0,13,14,15] (.rg (.xi [0,13,14,15,17] Rule.av hv_t15 (.sg 3 [0,5,13,14,15] (.dn (.sg 1 [0,5,13,14,15] (.rg (.sg 11 [0,5,13,14,15,19,21,23,25,27,29] (bndO H fun v1 hv H => (.ch [0,5,13,14,15] [0,1] (z131_walk _ _ _ _ _ _ v1 hv) (.dn (.sg 2 [0,5,13,14,15] (.rg (.sg 6 [0,5,13,14,15,32,34,36] (.ba [0,5,13,14,15,37] .i64 3 [x.Hits, x.Quiet, x.Age] (.sg 1 [0,5,13,14,15,37,38] (.dn (.sg 1 [0,5,13,14,15,37,38] (.tl hc0 [0,1,2] [0,5,13,14,15,37,38] ?_))))))))))))))))))))
    refine bndO H fun v2 hv H => (.into (.to (z96_l1_walk w1 list v t15 o1 x hv_t15 v1 f_list r c0 hc0 v2 ?_ 3 0 _ rfl rfl v1.b hv)))
    exact .rg (.sg 3 [0,13,14,15,46,48] (bndO H fun v3 hv H => (.ch [0,13,14,15] [0,1] (z132_walk _ _ false v3 hv) (.dn (.sg 2 [0,13,14,15] (.tl hc0 [0,1] [0,13,14,15] (.into (.cl (ih (t15 + 1) _ hw hd2 v3.b H)))))))))
def z96_raw (w1 : Writer) (list : List Rule) : Option (Writer) :=
  (putW w1 (IntKind.u64.wrap (((List.map Rule.av list).length : Nat) : Int)) 2).bind fun v =>
  (z96_l0s list v.b).bind fun v1 =>
  some ({ b := v1 } : Writer)
theorem z96_walk (w1 : Writer) (list : List Rule) (f_list : Bool) (r : Writer) (H : z96_raw w1 list = some r) : ACalls Tryz.prog tab.S 96 [.ptr 0 0 none, .sl 70 (List.map Rule.av list) f_list] [.box 173 [.own 1 1000000], .row 5 (List.map (intA .u8) w1.b) 1000000 true] (.tup []) [.box 173 [.own 1 1000000], .row 5 (List.map (intA .u8) r.b) 1000000 true] := by
  refine .of_AX z96_F Tryz.func96 fun c0 hc0 => ?_
  rw [z96_raw] at H
  refine .sg 1 [0,1] (.rg (.sg 4 [0,1,8,11] (bndO H fun v hv H => (.ch [0,1] [0,1] (z93_ok _ _ _ v hv) (.dn (.sg 3 [0,13,14,15] (.tl hc0 [0,1] [0,13,14,15] ?_)))))))
  refine bndO H fun v1 hv H => (.into (.to (z96_l0_walk w1 list v f_list r c0 hc0 v1 ?_ list 0 _ rfl rfl v.b hv)))
  obtain rfl := Option.some.inj H
  exact .ret Tryz.func96 hc0 [0,1]
end Go.Proofs.YtembchgiajidaaaGreat
namespace Go.Proofs.YtembchgiajidaaaGreat
open Go.Sh
noncomputable def z89_F : Go.Sh.Fn := ⟨89, bodyOf Tryz.f89, 51⟩
def z89_l0s : List Int → Int → Int
 | [], n =>
  n
 | x1 :: rest, n =>
  z89_l0s rest (IntKind.u64.wrap ((BitVec.ofInt 64 (IntKind.u64.wrap (n * 2 ^ (min (8 : Int).toNat (IntKind.u64).bits))) ||| BitVec.ofInt 64 (IntKind.u64.wrap x1)).toNat))
theorem z89_l0_walk (r2 : Reader) (size : Int) (x : List Int) (r : Int × Reader) (c0 : Ctx) (hc0 : c0.m.length = 1) (res : Int) (J : AX Tryz.prog tab z89_F c0 (Rp tab.S c0 (.sc (.int .u64 r.1)) [.box 143 [.sl 5 (List.map (intA .u8) r.2.b) false, .sc (.bool r.2.end_)]]) (some ⟨[.code [1, 1, 1, 1]], [(0, .ptr 0 0 none), (1, .sc (.int .i64 size)), (5, .sc (.int .u64 res))], [.box 143 (Reader.ch r2)]⟩)) :
  ∀ (rest : List Int) (t31 : Nat) (z : Int) (hI : z = ((t31 : Nat) : Int)) (hd : x.drop t31 = rest) (n : Int) (H : z89_l0s rest n = res), AX Tryz.prog tab z89_F c0 (Rp tab.S c0 (.sc (.int .u64 r.1)) [.box 143 [.sl 5 (List.map (intA .u8) r.2.b) false, .sc (.bool r.2.end_)]]) (some ⟨[.code [1, 1, 1, 0, 1, 0, 0], .loop [1, 1, 1, 0, 1, 0], .blk 0, .code [1, 1, 1, 1]], [(0, .ptr 0 0 none), (1, .sc (.int .i64 size)), (5, .sc (.int .u64 n)), (29, .sl 5 (List.map (intA .u8) x) false), (30, .sc (.int .i64 (((List.map (intA .u8) x).length : Nat) : Int))), (31, .sc (.int .i64 z))], [.box 143 (Reader.ch r2)]⟩) := by
 intro rest
 induction rest with
 | nil =>
  intro t31 z hI hd n H
  subst hI
  rw [z89_l0s] at H
  refine .facts 29 fun hf => ?_
  have hlen : x.length ≤ 9223372036854775807 := by have hq := len_ok hf.2.1; rw [List.length_map] at hq; exact hq
  have hge : x.length ≤ t31 := List.drop_eq_nil_iff.1 hd
  have hc : (decide (((t31 : Nat) : Int) < (((List.map (intA .u8) x).length : Nat) : Int))) = false := by rw [List.length_map]; exact decide_eq_false (by omega)
  refine .sg 3 [0,1,5,29,30,31,32] (.cdF hc (.sg 1 [0,1,5] (.kp [0,1,5] ?_)))
  subst H
  exact .to J
 | cons x1 rest ih =>
  intro t31 z hI hd n H
  subst hI
  rw [z89_l0s] at H
  refine .facts 29 fun hf => ?_
  have hlen : x.length ≤ 9223372036854775807 := by have hq := len_ok hf.2.1; rw [List.length_map] at hq; exact hq
  obtain ⟨hlt, hv_t31, hd2⟩ := drop_cons hd
  have hc : (decide (((t31 : Nat) : Int) < (((List.map (intA .u8) x).length : Nat) : Int))) = true := by rw [List.length_map]; exact decide_eq_true (by omega)
  have hw : IntKind.i64.wrap (((t31 : Nat) : Int) + 1) = ((t31 + 1 : Nat) : Int) := wrapI_succ (by omega)
  exact .sg 3 [0,1,5,29,30,31,32] (.cdT hc (.sg 4 [0,1,5,29,30,31] (.rg (.xi [0,1,5,29,30,31,33] (intA .u8) hv_t31 (.sg 2 [0,1,5,7,29,30,31] (.dn (.rg (.sg 1 [0,1,7,29,30,31,35] (.sl_ [0,1,7,29,30,31,36] (b := 8) (by decide) (.sg 4 [0,1,5,29,30,31] (.dn (.sg 2 [0,1,5,29,30,31] (.kp [0,1,5,29,30,31] (.into (.cl (ih (t31 + 1) _ hw hd2 (IntKind.u64.wrap ((BitVec.ofInt 64 (IntKind.u64.wrap (n * 2 ^ (min (8 : Int).toNat (IntKind.u64).bits))) ||| BitVec.ofInt 64 (IntKind.u64.wrap x1)).toNat)) H))))))))))))))))
def z89_raw (r2 : Reader) (size : Int) : Option (Int × Reader) :=
 (bif (r2.end_ || (decide ((((List.map (intA .u8) r2.b).length : Nat) : Int) < size))) then
  some (0, ({ b := r2.b, end_ := true } : Reader))
 else
  (sliceO r2.b none (some size) none).bind fun x =>
  letT (z89_l0s x 0) fun v =>
  (sliceO r2.b (some size) none none).bind fun x2 =>
  some (v, ({ b := x2, end_ := r2.end_ } : Reader)))
theorem z89_walk (r2 : Reader) (size : Int) (r : Int × Reader) (H : z89_raw r2 size = some r) : ACalls Tryz.prog tab.S 89 [.ptr 0 0 none, .sc (.int .i64 size)] [.box 143 [.sl 5 (List.map (intA .u8) r2.b) false, .sc (.bool r2.end_)]] (.sc (.int .u64 r.1)) [.box 143 [.sl 5 (List.map (intA .u8) r.2.b) false, .sc (.bool r.2.end_)]] := by
 refine .of_AX z89_F Tryz.func89 fun c0 hc0 => ?_
 rw [z89_raw] at H
 refine .sg 4 [0,1] (.rg (.sg 5 [0,1,12] (.mx 1 [0,1,20] (.dn (.cd (r2.end_ || (decide ((((List.map (intA .u8) r2.b).length : Nat) : Int) < size))) H (fun hb H => ?_) (fun hb H => ?_))))))
 ·
  refine .sg 4 [4] ?_
  obtain rfl := Option.some.inj H
  exact .ret Tryz.func89 hc0 [0]
 ·
  refine .sg 5 [0,1,5] (.rg (.sg 5 [0,1,5,27,28] (bndO H fun x hv H => (.so [0,1,5,29] (intA .u8) hv (.sg 2 [0,1,5,29,30,31] (.dn (.sg 1 [0,1,5,29,30,31] ?_)))))))
  refine letH H fun v hv H => (.into (.to (z89_l0_walk r2 size x r c0 hc0 v ?_ x 0 _ rfl rfl 0 hv)))
  refine .sg 1 [0,1,5] (.rg (.sg 6 [5,41,45,46] (bndO H fun x2 hv H => (.so [5,41,47] (intA .u8) hv (.sg 3 [5] (.dn (.sg 2 [4] ?_)))))))
  obtain rfl := Option.some.inj H
  exact .ret Tryz.func89 hc0 [0]
noncomputable def z62_F : Go.Sh.Fn := ⟨62, bodyOf Tryz.f62, 9⟩
def z62_raw (r2 : Reader) (size : Int) : Option (Int × Reader) :=
 (z89_raw r2 size).bind fun v =>
 some ((IntKind.i64.wrap v.1), v.2)
theorem z62_walk (r2 : Reader) (size : Int) (r : Int × Reader) (H : z62_raw r2 size = some r) : ACalls Tryz.prog tab.S 62 [.ptr 0 0 none, .sc (.int .i64 size)] [.box 143 [.sl 5 (List.map (intA .u8) r2.b) false, .sc (.bool r2.end_)]] (.sc (.int .i64 r.1)) [.box 143 [.sl 5 (List.map (intA .u8) r.2.b) false, .sc (.bool r.2.end_)]] := by
 refine .of_AX z62_F Tryz.func62 fun c0 hc0 => ?_
 rw [z62_raw] at H
 refine .sg 3 [0,1] (.rg (.sg 2 [5,6] (bndO H fun v hv H => (.ch [7] [0] (z89_walk _ _ v hv) (.sg 2 [4] (.dn ?_))))))
 obtain rfl := Option.some.inj H
 exact .ret Tryz.func62 hc0 [0]
noncomputable def z64_F : Go.Sh.Fn := ⟨64, bodyOf Tryz.f64, 14⟩
def z64_l0s : Nat → Nat → List Int → Bool → List Int → Option ((List Int) × Bool × (List Int))
 | 0, t5, r_0, r_1, h1 =>
  some (r_0, r_1, h1)
 | rest + 1, t5, r_0, r_1, h1 =>
  (z89_raw ({ b := r_0, end_ := r_1 } : Reader) 8).bind fun v =>
  z64_l0s rest (t5 + 1) v.2.b v.2.end_ (h1.set (t5) v.1)
theorem z64_l0_walk (r2 : Reader) (r : (List Int) × Reader) (c0 : Ctx) (hc0 : c0.m.length = 1) (res : (List Int) × Bool × (List Int)) (J : AX Tryz.prog tab z64_F c0 (Rp tab.S c0 (.arr .u64 12 r.1) [.box 143 [.sl 5 (List.map (intA .u8) r.2.b) false, .sc (.bool r.2.end_)]]) (some ⟨[.code [1, 1, 1]], [(2, .ptr 1 0 none), (3, .ptr 2 0 none)], [.box 143 [.sl 5 (List.map (intA .u8) res.1) false, .sc (.bool res.2.1)], .box 37 [.arr .u64 12 [0, 0, 0, 0, 0, 0, 0, 0, 0, 0, 0, 0]], .box 37 [.arr .u64 12 res.2.2]]⟩)) :
  ∀ (rest : Nat) (t5 : Nat) (z : Int) (hI : z = ((t5 : Nat) : Int)) (hd : t5 + rest = 12) (r_0 : List Int) (r_1 : Bool) (h1 : List Int) (H : z64_l0s rest t5 r_0 r_1 h1 = some res), AX Tryz.prog tab z64_F c0 (Rp tab.S c0 (.arr .u64 12 r.1) [.box 143 [.sl 5 (List.map (intA .u8) r.2.b) false, .sc (.bool r.2.end_)]]) (some ⟨[.code [1, 1, 0, 1, 0, 0], .loop [1, 1, 0, 1, 0], .blk 0, .code [1, 1, 1]], [(0, .ptr 0 0 none), (2, .ptr 1 0 none), (3, .ptr 2 0 none), (5, .sc (.int .i64 z))], [.box 143 [.sl 5 (List.map (intA .u8) r_0) false, .sc (.bool r_1)], .box 37 [.arr .u64 12 [0, 0, 0, 0, 0, 0, 0, 0, 0, 0, 0, 0]], .box 37 [.arr .u64 12 h1]]⟩) := by
 intro rest
 induction rest with
 | zero =>
  intro t5 z hI hd r_0 r_1 h1 H
  subst hI
  rw [z64_l0s] at H
  have hc : (decide (((t5 : Nat) : Int) < 12)) = false := decide_eq_false (by omega)
  refine .sg 3 [0,2,3,5,6] (.cdF hc (.sg 1 [2,3] (.kp [2,3] ?_)))
  obtain rfl := Option.some.inj H
  exact .to J
 | succ rest ih =>
  intro t5 z hI hd r_0 r_1 h1 H
  subst hI
  rw [z64_l0s] at H
  have hlt_t5 : t5 < 12 := by omega
  have hc : (decide (((t5 : Nat) : Int) < 12)) = true := decide_eq_true (by omega)
  have hw : IntKind.i64.wrap (((t5 : Nat) : Int) + 1) = ((t5 + 1 : Nat) : Int) := wrapI_succ (by omega)
  refine .sg 3 [0,2,3,5,6] (.cdT hc (.sg 5 [0,2,3,4,5] (.rg (.sg 2 [0,2,3,5,8,9] (bndO H fun v hv H => (.ch [0,2,3,5,8,10] [0] (z89_walk _ _ v hv) ?_))))))
  have hreq := idx_in 12 hlt_t5 (by decide)
  exact .xa [0,2,3,5,10,11] hreq (.sg 1 [0,2,3,5] (.dn (.sg 2 [0,2,3,5] (.kp [0,2,3,5] (.into (.cl (ih (t5 + 1) _ hw (by omega) v.2.b v.2.end_ (h1.set (t5) v.1) H)))))))
def z64_raw (r2 : Reader) : Option ((List Int) × Reader) :=
 (z64_l0s 12 0 r2.b r2.end_ [0, 0, 0, 0, 0, 0, 0, 0, 0, 0, 0, 0]).bind fun v =>
 some (v.2.2, ({ b := v.1, end_ := v.2.1 } : Reader))
theorem z64_walk (r2 : Reader) (r : (List Int) × Reader) (H : z64_raw r2 = some r) : ACalls Tryz.prog tab.S 64 [.ptr 0 0 none] [.box 143 [.sl 5 (List.map (intA .u8) r2.b) false, .sc (.bool r2.end_)]] (.arr .u64 12 r.1) [.box 143 [.sl 5 (List.map (intA .u8) r.2.b) false, .sc (.bool r.2.end_)]] := by
 refine .of_AX z64_F Tryz.func64 fun c0 hc0 => ?_
 rw [z64_raw] at H
 refine .sg 8 [0,2,3,5] ?_
 refine bndO H fun v hv H => (.into (.to (z64_l0_walk r2 r c0 hc0 v ?_ 12 0 _ rfl rfl r2.b r2.end_ [0, 0, 0, 0, 0, 0, 0, 0, 0, 0, 0, 0] hv)))
 refine .sg 2 [2] ?_
 obtain rfl := Option.some.inj H
 exact .ret Tryz.func64 hc0 [0]
noncomputable def z90_F : Go.Sh.Fn := ⟨90, bodyOf Tryz.f90, 8⟩
def z90_raw (r2 : Reader) : Option (Cube × Reader) :=
 (z64_raw r2).bind fun v =>
 (z64_raw v.2).bind fun v1 =>
 some (({ Value := v.1, Care := v1.1 } : Cube), v1.2)
theorem z90_walk (r2 : Reader) (r : Cube × Reader) (H : z90_raw r2 = some r) : ACalls Tryz.prog tab.S 90 [.ptr 0 0 none] [.box 143 [.sl 5 (List.map (intA .u8) r2.b) false, .sc (.bool r2.end_)]] (Cube.av r.1) [.box 143 [.sl 5 (List.map (intA .u8) r.2.b) false, .sc (.bool r.2.end_)]] := by
 refine .of_AX z90_F Tryz.func90 fun c0 hc0 => ?_
 rw [z90_raw] at H
 refine .sg 3 [0,2] (.rg (.sg 1 [0,2,3] (bndO H fun v hv H => (.ch [0,2,4] [0] (z64_walk _ v hv) (.sg 1 [2,4,5] (bndO H fun v1 hv H => (.ch [2,4,6] [0] (z64_walk _ v1 hv) (.sg 2 [2] (.dn ?_)))))))))
 obtain rfl := Option.some.inj H
 exact .ret Tryz.func90 hc0 [0]
noncomputable def z91_F : Go.Sh.Fn := ⟨91, bodyOf Tryz.f91, 31⟩
def z91_l0  : Nat → Int → List Int → Bool → List Act → Option ((List Int) × Bool × (List Act))
 | 0, _, _, _, _ => none
 | m + 1, n, r_0, r_1, out =>
  (bif ((decide (n > 0)) && (!r_1)) then
  (z62_raw ({ b := r_0, end_ := r_1 } : Reader) 1).bind fun v1 =>
  (z62_raw v1.2 1).bind fun v2 =>
  (z62_raw v2.2 1).bind fun v3 =>
  (z89_raw v3.2 8).bind fun v4 =>
  fitO (out.length + [({ Kind := v1.1, Port := v2.1, Field := v3.1, Value := v4.1 } : Act)].length) 32 (
  z91_l0 m (IntKind.i64.wrap (n - 1)) v4.2.b v4.2.end_ (out ++ [({ Kind := v1.1, Port := v2.1, Field := v3.1, Value := v4.1 } : Act)]))
 else
  some (r_0, r_1, out))
theorem z91_l0_walk (q0 : Nat) (r2 : Reader) (v : Int × Reader)  (r : (List Act) × Reader) (c0 : Ctx) (hc0 : c0.m.length = 1) (res : (List Int) × Bool × (List Act)) (J : AX Tryz.prog tab z91_F c0 (Rp tab.S c0 (.sl 60 (List.map Act.av r.1) false) [.box 143 [.sl 5 (List.map (intA .u8) r.2.b) false, .sc (.bool r.2.end_)]]) (some ⟨[.code [1, 1, 1]], [(3, .own 1 1000000)], [.box 143 [.sl 5 (List.map (intA .u8) res.1) false, .sc (.bool res.2.1)], .row 60 (List.map Act.av res.2.2) 1000000 true]⟩)) :
  ∀ (m : Nat) (n : Int) (r_0 : List Int) (r_1 : Bool) (out : List Act) (H : z91_l0  m n r_0 r_1 out = some res), AX Tryz.prog tab z91_F c0 (Rp tab.S c0 (.sl 60 (List.map Act.av r.1) false) [.box 143 [.sl 5 (List.map (intA .u8) r.2.b) false, .sc (.bool r.2.end_)]]) (some ⟨[.code [1, 1, 0, 1, 0, 0], .loop [1, 1, 0, 1, 0], .blk 0, .code [1, 1, 1]], [(0, .ptr 0 0 none), (3, .own 1 1000000), (4, .sc (.int .i64 n))], [.box 143 [.sl 5 (List.map (intA .u8) r_0) false, .sc (.bool r_1)], .row 60 (List.map Act.av out) 1000000 true]⟩) := by
 intro m
 induction m with
 | zero => intro n r_0 r_1 out H; cases H
 | succ m ih =>
  intro n r_0 r_1 out H
  rw [z91_l0] at H
  refine .sg 2 [0,3,4] (.rg (.sg 3 [0,3,4,9] (.mx 0 [0,3,4,15] (.dn (.cd ((decide (n > 0)) && (!r_1)) H (fun hb H => ?_) (fun hb H => ?_))))))
  ·
   exact .sg 3 [0,3,4] (.rg (.sg 2 [0,4,18,19] (bndO H fun v1 hv H => (.ch [0,4,18,20] [0] (z62_walk _ _ v1 hv) (.sg 1 [0,4,18,20,21] (bndO H fun v2 hv H => (.ch [0,4,18,20,22] [0] (z62_walk _ _ v2 hv) (.sg 1 [0,4,18,20,22,23] (bndO H fun v3 hv H => (.ch [0,4,18,20,22,24] [0] (z62_walk _ _ v3 hv) (.sg 1 [0,4,18,20,22,24,25] (bndO H fun v4 hv H => (.ch [0,4,18,20,22,24,26] [0] (z89_walk _ _ v4 hv) (.sg 2 [0,4,18,28] (fitH H fun hfit H => (.ap [0,4,29] Act.av hfit (.sg 1 [0,3,4] (.dn (.sg 2 [0,3,4] (.tl hc0 [0,1] [0,3,4] (.into (.to (ih (IntKind.i64.wrap (n - 1)) v4.2.b v4.2.end_ (out ++ [({ Kind := v1.1, Port := v2.1, Field := v3.1, Value := v4.1 } : Act)]) H)))))))))))))))))))))))
  ·
   refine .sg 1 [3] (.kp [3] ?_)
   obtain rfl := Option.some.inj H
   exact .to J
def z91_raw (q0 : Nat) (r2 : Reader) : Option ((List Act) × Reader) :=
 (z62_raw r2 1).bind fun v =>
 (z91_l0 q0 v.1 v.2.b v.2.end_ ([] : List Act)).bind fun v1 =>
 some (v1.2.2, ({ b := v1.1, end_ := v1.2.1 } : Reader))
theorem z91_walk (q0 : Nat) (r2 : Reader) (r : (List Act) × Reader) (H : z91_raw q0 r2 = some r) : ACalls Tryz.prog tab.S 91 [.ptr 0 0 none] [.box 143 [.sl 5 (List.map (intA .u8) r2.b) false, .sc (.bool r2.end_)]] (.sl 60 (List.map Act.av r.1) false) [.box 143 [.sl 5 (List.map (intA .u8) r.2.b) false, .sc (.bool r.2.end_)]] := by
 refine .of_AX z91_F Tryz.func91 fun c0 hc0 => ?_
 rw [z91_raw] at H
 refine .sg 6 [0,3] (.rg (.sg 1 [0,3,5] (bndO H fun v hv H => (.ch [0,3,6] [0] (z62_walk _ _ v hv) (.sg 1 [0,3,4] (.dn (.sg 1 [0,3,4] (.ad 3 60 true (.kp [0,3,4] ?_)))))))))
 refine bndO H fun v1 hv H => (.into (.to (z91_l0_walk q0 r2 v r c0 hc0 v1 ?_ q0 v.1 v.2.b v.2.end_ ([] : List Act) hv)))
 refine .sg 2 [2] ?_
 obtain rfl := Option.some.inj H
 exact .ret Tryz.func91 hc0 [0]
noncomputable def z63_F : Go.Sh.Fn := ⟨63, bodyOf Tryz.f63, 30⟩
def z63_raw (r2 : Reader) : Option (Mod × Bool × Reader) :=
 (z62_raw r2 1).bind fun v =>
 (z90_raw v.2).bind fun v1 =>
 (z62_raw v1.2 2).bind fun v2 =>
 (z62_raw v2.2 4).bind fun v3 =>
 (z62_raw v3.2 4).bind fun v4 =>
 (z62_raw v4.2 1).bind fun v5 =>
 (z62_raw v5.2 1).bind fun v6 =>
 (z91_raw 300 v6.2).bind fun v7 =>
 some (({ Kind := v.1, Match := v1.1, Prio := v2.1, Acts := v7.1, Idle := v3.1, Hard := v4.1, Owner := v5.1, Check := (v6.1 == 1) } : Mod), (decide (v6.1 ≤ 1)), v7.2)
theorem z63_walk (r2 : Reader) (r : Mod × Bool × Reader) (H : z63_raw r2 = some r) : ACalls Tryz.prog tab.S 63 [.ptr 0 0 none] [.box 143 [.sl 5 (List.map (intA .u8) r2.b) false, .sc (.bool r2.end_)]] (.tup [Mod.av r.1, .sc (.bool r.2.1)]) [.box 143 [.sl 5 (List.map (intA .u8) r.2.2.b) false, .sc (.bool r.2.2.end_)]] := by
 refine .of_AX z63_F Tryz.func63 fun c0 hc0 => ?_
 rw [z63_raw] at H
 refine .sg 3 [0,2] (.rg (.sg 1 [0,2,6] (bndO H fun v hv H => (.ch [0,2,7] [0] (z62_walk _ _ v hv) (.sg 1 [0,2,7,8] (bndO H fun v1 hv H => (.ch [0,2,7,9] [0] (z90_walk _ v1 hv) (.sg 1 [0,2,7,9,10] (bndO H fun v2 hv H => (.ch [0,2,7,9,11] [0] (z62_walk _ _ v2 hv) (.sg 1 [0,2,7,9,11,12] (bndO H fun v3 hv H => (.ch [0,2,7,9,11,13] [0] (z62_walk _ _ v3 hv) (.sg 1 [0,2,7,9,11,13,14] (bndO H fun v4 hv H => (.ch [0,2,7,9,11,13,15] [0] (z62_walk _ _ v4 hv) (.sg 1 [0,2,7,9,11,13,15,16] (bndO H fun v5 hv H => (.ch [0,2,7,9,11,13,15,17] [0] (z62_walk _ _ v5 hv) (.sg 3 [0,2,4] (.dn (.sg 1 [0,2,4] (.rg (.sg 1 [0,2,4,19] (bndO H fun v6 hv H => (.ch [0,2,4,20] [0] (z62_walk _ _ v6 hv) (.sg 1 [0,2,4,5] (.dn (.sg 3 [0,2,4,5] (.rg (.sg 1 [2,4,5,24] (bndO H fun v7 hv H => (.ch [2,4,5,25] [0] ((z91_walk 300) _ v7 hv) (.sg 2 [2,4,5] (.dn (.sg 2 [2,3] ?_))))))))))))))))))))))))))))))))))))
 obtain rfl := Option.some.inj H
 exact .ret Tryz.func63 hc0 [0]
noncomputable def z65_F : Go.Sh.Fn := ⟨65, bodyOf Tryz.f65, 44⟩
def z65_l0  : Nat → Int → List Int → Bool → List Rule → Option ((List Int) × Bool × (List Rule))
 | 0, _, _, _, _ => none
 | m + 1, n, r_0, r_1, out =>
  (bif ((decide (n > 0)) && (!r_1)) then
  (z90_raw ({ b := r_0, end_ := r_1 } : Reader)).bind fun v1 =>
  (z62_raw v1.2 2).bind fun v2 =>
  (z62_raw v2.2 4).bind fun v3 =>
  (z62_raw v3.2 4).bind fun v4 =>
  (z62_raw v4.2 1).bind fun v5 =>
  (z62_raw v5.2 8).bind fun v6 =>
  (z62_raw v6.2 8).bind fun v7 =>
  (z62_raw v7.2 8).bind fun v8 =>
  (z91_raw 300 v8.2).bind fun v9 =>
  fitO (out.length + [({ Match := v1.1, Prio := v2.1, Acts := v9.1, Idle := v3.1, Hard := v4.1, Owner := v5.1, Hits := v6.1, Quiet := v7.1, Age := v8.1 } : Rule)].length) 272 (
  z65_l0 m (IntKind.i64.wrap (n - 1)) v9.2.b v9.2.end_ (out ++ [({ Match := v1.1, Prio := v2.1, Acts := v9.1, Idle := v3.1, Hard := v4.1, Owner := v5.1, Hits := v6.1, Quiet := v7.1, Age := v8.1 } : Rule)]))
 else
  some (r_0, r_1, out))
theorem z65_l0_walk (q0 : Nat) (r2 : Reader) (v : Int × Reader)  (r : (List Rule) × Reader) (c0 : Ctx) (hc0 : c0.m.length = 1) (res : (List Int) × Bool × (List Rule)) (J : AX Tryz.prog tab z65_F c0 (Rp tab.S c0 (.sl 70 (List.map Rule.av r.1) false) [.box 143 [.sl 5 (List.map (intA .u8) r.2.b) false, .sc (.bool r.2.end_)]]) (some ⟨[.code [1, 1, 1]], [(3, .own 1 1000000)], [.box 143 [.sl 5 (List.map (intA .u8) res.1) false, .sc (.bool res.2.1)], .row 70 (List.map Rule.av res.2.2) 1000000 true]⟩)) :
  ∀ (m : Nat) (n : Int) (r_0 : List Int) (r_1 : Bool) (out : List Rule) (H : z65_l0  m n r_0 r_1 out = some res), AX Tryz.prog tab z65_F c0 (Rp tab.S c0 (.sl 70 (List.map Rule.av r.1) false) [.box 143 [.sl 5 (List.map (intA .u8) r.2.b) false, .sc (.bool r.2.end_)]]) (some ⟨[.code [1, 1, 0, 1, 0, 0], .loop [1, 1, 0, 1, 0], .blk 0, .code [1, 1, 1]], [(0, .ptr 0 0 none), (3, .own 1 1000000), (4, .sc (.int .i64 n))], [.box 143 [.sl 5 (List.map (intA .u8) r_0) false, .sc (.bool r_1)], .row 70 (List.map Rule.av out) 1000000 true]⟩) := by
 intro m
 induction m with
 | zero => intro n r_0 r_1 out H; cases H
 | succ m ih =>
  intro n r_0 r_1 out H
  rw [z65_l0] at H
  refine .sg 2 [0,3,4] (.rg (.sg 3 [0,3,4,10] (.mx 0 [0,3,4,16] (.dn (.cd ((decide (n > 0)) && (!r_1)) H (fun hb H => ?_) (fun hb H => ?_))))))
  ·
   exact .sg 4 [0,3,4] (.rg (.sg 1 [0,3,4,19] (bndO H fun v1 hv H => (.ch [0,3,4,20] [0] (z90_walk _ v1 hv) (.sg 1 [0,3,4,20,21] (bndO H fun v2 hv H => (.ch [0,3,4,20,22] [0] (z62_walk _ _ v2 hv) (.sg 1 [0,3,4,20,22,23] (bndO H fun v3 hv H => (.ch [0,3,4,20,22,24] [0] (z62_walk _ _ v3 hv) (.sg 1 [0,3,4,20,22,24,25] (bndO H fun v4 hv H => (.ch [0,3,4,20,22,24,26] [0] (z62_walk _ _ v4 hv) (.sg 1 [0,3,4,20,22,24,26,27] (bndO H fun v5 hv H => (.ch [0,3,4,20,22,24,26,28] [0] (z62_walk _ _ v5 hv) (.sg 1 [0,3,4,20,22,24,26,28,29] (bndO H fun v6 hv H => (.ch [0,3,4,20,22,24,26,28,30] [0] (z62_walk _ _ v6 hv) (.sg 1 [0,3,4,20,22,24,26,28,30,31] (bndO H fun v7 hv H => (.ch [0,3,4,20,22,24,26,28,30,32] [0] (z62_walk _ _ v7 hv) (.sg 1 [0,3,4,20,22,24,26,28,30,32,33] (bndO H fun v8 hv H => (.ch [0,3,4,20,22,24,26,28,30,32,34] [0] (z62_walk _ _ v8 hv) (.sg 3 [0,3,4,5] (.dn (.sg 1 [0,3,4,5] (.rg (.sg 1 [0,3,4,5,36] (bndO H fun v9 hv H => (.ch [0,3,4,5,37] [0] ((z91_walk 300) _ v9 hv) (.sg 2 [0,3,4,5] (.dn (.rg (.sg 3 [0,4,39,41] (fitH H fun hfit H => (.ap [0,4,42] Rule.av hfit (.sg 1 [0,3,4] (.dn (.sg 2 [0,3,4] (.tl hc0 [0,1] [0,3,4] (.into (.to (ih (IntKind.i64.wrap (n - 1)) v9.2.b v9.2.end_ (out ++ [({ Match := v1.1, Prio := v2.1, Acts := v9.1, Idle := v3.1, Hard := v4.1, Owner := v5.1, Hits := v6.1, Quiet := v7.1, Age := v8.1 } : Rule)]) H)))))))))))))))))))))))))))))))))))))))))))))
  ·
   refine .sg 1 [3] (.kp [3] ?_)
   obtain rfl := Option.some.inj H
   exact .to J
def z65_raw (q0 : Nat) (r2 : Reader) : Option ((List Rule) × Reader) :=
 (z62_raw r2 2).bind fun v =>
 (z65_l0 q0 v.1 v.2.b v.2.end_ ([] : List Rule)).bind fun v1 =>
 some (v1.2.2, ({ b := v1.1, end_ := v1.2.1 } : Reader))
theorem z65_walk (q0 : Nat) (r2 : Reader) (r : (List Rule) × Reader) (H : z65_raw q0 r2 = some r) : ACalls Tryz.prog tab.S 65 [.ptr 0 0 none] [.box 143 [.sl 5 (List.map (intA .u8) r2.b) false, .sc (.bool r2.end_)]] (.sl 70 (List.map Rule.av r.1) false) [.box 143 [.sl 5 (List.map (intA .u8) r.2.b) false, .sc (.bool r.2.end_)]] := by
 refine .of_AX z65_F Tryz.func65 fun c0 hc0 => ?_
 rw [z65_raw] at H
 refine .sg 6 [0,3] (.rg (.sg 1 [0,3,6] (bndO H fun v hv H => (.ch [0,3,7] [0] (z62_walk _ _ v hv) (.sg 1 [0,3,4] (.dn (.sg 1 [0,3,4] (.ad 3 70 true (.kp [0,3,4] ?_)))))))))
 refine bndO H fun v1 hv H => (.into (.to (z65_l0_walk q0 r2 v r c0 hc0 v1 ?_ q0 v.1 v.2.b v.2.end_ ([] : List Rule) hv)))
 refine .sg 2 [2] ?_
 obtain rfl := Option.some.inj H
 exact .ret Tryz.func65 hc0 [0]
end Go.Proofs.YtembchgiajidaaaGreat
namespace Go.Proofs.YtembchgiajidaaaGreat
open Go.Sh
noncomputable def z139_F : Go.Sh.Fn := ⟨139, bodyOf Tryz.f139, 9⟩
def z139 (n : Int) : Bool :=
 ((decide (n ≥ 0)) && (decide (n < 12)))
theorem z139_calls (n : Int) : ACalls Tryz.prog tab.S 139 [.sc (.int .i64 n)] [] (.sc (.bool (z139 n))) [] := by
 generalize H : z139 n = r
 refine .of_AX z139_F Tryz.func139 fun c0 hc0 => ?_
 rw [z139] at H
 refine .sg 3 [0] (.rg (.sg 3 [0,5] (.mx 0 [8] (.sg 1 [2] (.dn ?_)))))
 subst H
 exact .ret Tryz.func139 hc0
noncomputable def z140_F : Go.Sh.Fn := ⟨140, bodyOf Tryz.f140, 14⟩
def z140 : (List Field) :=
 [({ name := (ByteArray.mk #[105, 110]), size := 16 } : Field), ({ name := (ByteArray.mk #[101, 115, 114, 99]), size := 48 } : Field), ({ name := (ByteArray.mk #[101, 100, 115, 116]), size := 48 } : Field), ({ name := (ByteArray.mk #[101, 116, 121, 112, 101]), size := 16 } : Field), ({ name := (ByteArray.mk #[118, 108, 97, 110]), size := 12 } : Field), ({ name := (ByteArray.mk #[112, 99, 112]), size := 4 } : Field), ({ name := (ByteArray.mk #[115, 114, 99]), size := 32 } : Field), ({ name := (ByteArray.mk #[100, 115, 116]), size := 32 } : Field), ({ name := (ByteArray.mk #[112, 114, 111, 116, 111]), size := 8 } : Field), ({ name := (ByteArray.mk #[116, 111, 115]), size := 8 } : Field), ({ name := (ByteArray.mk #[115, 112, 111, 114, 116]), size := 12 } : Field), ({ name := (ByteArray.mk #[100, 112, 111, 114, 116]), size := 12 } : Field)]
theorem z140_calls : ACalls Tryz.prog tab.S 140 [] [] (.agg (List.flatMap Field.ch (z140))) [] := by
 generalize H : z140 = r
 refine .of_AX z140_F Tryz.func140 fun c0 hc0 => ?_
 rw [z140] at H
 refine .sg 4 [0] ?_
 subst H
 exact .ret Tryz.func140 hc0
noncomputable def z113_F : Go.Sh.Fn := ⟨113, bodyOf Tryz.f113, 10⟩
def z113_raw (n : Int) : Option (Int) :=
 (bif (!(z139 n)) then
  some 0
 else
  (ixO z140 n).bind fun x =>
  some x.size)
theorem z113_walk (n : Int) (r : Int) (H : z113_raw n = some r) : ACalls Tryz.prog tab.S 113 [.sc (.int .i64 n)] [] (.sc (.int .i64 r)) [] := by
 refine .of_AX z113_F Tryz.func113 fun c0 hc0 => ?_
 rw [z113_raw] at H
 refine .sg 4 [0] (.rg (.sg 1 [0,3] (.cp [0,4] (z139_calls n) (.sg 1 [0,5] (.dn (.cd (!(z139 n)) H (fun hb H => ?_) (fun hb H => ?_)))))))
 ·
  refine .sg 2 [2] ?_
  obtain rfl := Option.some.inj H
  exact .ret Tryz.func113 hc0
 ·
  refine .sg 2 [0] (.rg (.cp [0,6] (z140_calls) (.sg 1 [6,7] (bndO H fun x hv H => (.xr [8] z140 Field.ch 2 hv (.fd [9] (.sg 1 [2] (.dn ?_))))))))
  obtain rfl := Option.some.inj H
  exact .ret Tryz.func113 hc0
theorem z113_ok (n : Int) : ACalls Tryz.prog tab.S 113 [.sc (.int .i64 n)] [] (.sc (.int .i64 (sizeT n))) [] := by
 refine z113_walk n (sizeT n) ?_
 rw [z113_raw, z139]
 rcases sizeT_cases n with ⟨h, e⟩ | ⟨h1, h2, k, rfl, hk, e⟩
 ·rw [e]
  have : (decide (n ≥ 0) && decide (n < 12)) = false := by
   rw [Bool.and_eq_false_iff, decide_eq_false_iff_not, decide_eq_false_iff_not]; omega
  rw [this]
  rfl
 ·rw [e, decide_eq_true h1, decide_eq_true h2]
  match k, hk with
  | 0, _ | 1, _ | 2, _ | 3, _ | 4, _ | 5, _ | 6, _ | 7, _ | 8, _ | 9, _ | 10, _ | 11, _ => rfl
noncomputable def z81_F : Go.Sh.Fn := ⟨81, bodyOf Tryz.f81, 10⟩
def z81_raw (n : Int) (v : Int) : Option (Bool) :=
 reqO (decide (0 ≤ (sizeT n))) (
 some ((Int.fdiv v (2 ^ (min ((sizeT n) : Int).toNat (IntKind.u64).bits))) == 0))
theorem z81_walk (n : Int) (v : Int) (r : Bool) (H : z81_raw n v = some r) : ACalls Tryz.prog tab.S 81 [.sc (.int .i64 n), .sc (.int .u64 v)] [] (.sc (.bool r)) [] := by
 refine .of_AX z81_F Tryz.func81 fun c0 hc0 => ?_
 rw [z81_raw] at H
 refine .sg 3 [0,1] (.rg (.sg 2 [5,6] (.cp [5,7] (z113_ok n) (reqH H fun hreq H => (.sr_ [8] (b := (sizeT n)) hreq (.sg 2 [4] (.dn ?_)))))))
 obtain rfl := Option.some.inj H
 exact .ret Tryz.func81 hc0
theorem fits_fdiv {n v : Int} : (Int.fdiv v (2 ^ (min (sizeT n).toNat (IntKind.u64).bits)) == 0) = (decide (0 ≤ v) && fitsT n v) := by
 have hs := sizeT_in n
 have hm : min (sizeT n).toNat (IntKind.u64).bits = (sizeT n).toNat := Nat.min_eq_left (by show _ ≤ 64; omega)
 rw [hm]
 have hp := pow_pos2 (sizeT n).toNat
 unfold fitsT
 rw [Bool.eq_iff_iff, Bool.and_eq_true, decide_eq_true_eq, decide_eq_true_eq, beq_iff_eq]
 rw [Int.fdiv_eq_ediv_of_nonneg _ (Int.le_of_lt hp)]
 constructor
 ·intro h
  have h1 := Int.mul_ediv_add_emod v ((2 : Int) ^ (sizeT n).toNat)
  have h2 := Int.emod_nonneg v (Int.ne_of_gt hp)
  have h3 := Int.emod_lt_of_pos v hp
  rw [h, Int.mul_zero, Int.zero_add] at h1
  rw [h1] at h2 h3
  exact ⟨h2, h3⟩
 ·intro h
  exact Int.ediv_eq_zero_of_lt h.1 h.2
def fitsH (n v : Int) : Bool := decide (0 ≤ v) && fitsT n v
theorem z81_ok (n v : Int) : ACalls Tryz.prog tab.S 81 [.sc (.int .i64 n), .sc (.int .u64 v)] [] (.sc (.bool (fitsH n v))) [] := by
 refine z81_walk n v _ ?_
 rw [z81_raw, reqO_eq (decide_eq_true (sizeT_in n).1), fits_fdiv]
 rfl
noncomputable def head_Set_F : Go.Sh.Fn := ⟨182, bodyOf Tryz.f182, 23⟩
def head_Set_raw (h1 : List Int) (n : Int) (v : Int) : Option ((List Int) × Int) :=
 (bif (!(z139 n)) then
  some ([0, 0, 0, 0, 0, 0, 0, 0, 0, 0, 0, 0], 1)
 else
  (bif (!(fitsH n v)) then
   some ([0, 0, 0, 0, 0, 0, 0, 0, 0, 0, 0, 0], 13)
  else
   reqO (decide (0 ≤ n) && decide (n < ((12 : Nat) : Int))) (
   some ((h1.set (n.toNat) v), 0))))
theorem head_Set_walk (h1 : List Int) (n : Int) (v : Int) (r : (List Int) × Int) (H : head_Set_raw h1 n v = some r) : ACalls Tryz.prog tab.S 182 [.arr .u64 12 h1, .sc (.int .i64 n), .sc (.int .u64 v)] [] (.tup [.arr .u64 12 r.1, .sc (.int .i64 r.2)]) [] := by
 refine .of_AX head_Set_F Tryz.func182 fun c0 hc0 => ?_
 rw [head_Set_raw] at H
 refine .sg 5 [1,2,3,6] (.rg (.sg 1 [1,2,3,6,9] (.cp [1,2,3,6,10] (z139_calls n) (.sg 2 [1,2,3,6,8] (.dn (.cd (!(z139 n)) H (fun hb H => ?_) (fun hb H => ?_)))))))
 ·
  refine .sg 2 [6,7] ?_
  obtain rfl := Option.some.inj H
  exact .ret Tryz.func182 hc0
 ·
  refine .sg 1 [1,2,3,6] (.rg (.sg 2 [1,2,3,6,14,15] (.cp [1,2,3,6,16] (z81_ok n v) (.sg 2 [1,2,3,6,13] (.dn (.cd (!(fitsH n v)) H (fun hb H => ?_) (fun hb H => ?_)))))))
  ·
   refine .sg 2 [6,7] ?_
   obtain rfl := Option.some.inj H
   exact .ret Tryz.func182 hc0
  ·
   refine .sg 3 [1,2,3,6] (.rg (.sg 2 [3,6,19,20] (reqH H fun hreq H => (.xa [3,6,20,21] hreq (.sg 1 [3,6] (.dn (.sg 2 [6,7] ?_)))))))
   obtain rfl := Option.some.inj H
   exact .ret Tryz.func182 hc0
def setT_ (h : List Int) (n v : Int) : List Int × Int :=
 if z139 n then (if fitsH n v then (h.set n.toNat v, 0) else ([0, 0, 0, 0, 0, 0, 0, 0, 0, 0, 0, 0], 13)) else ([0, 0, 0, 0, 0, 0, 0, 0, 0, 0, 0, 0], 1)
theorem head_Set_ok (h : List Int) (n v : Int) : ACalls Tryz.prog tab.S 182 [.arr .u64 12 h, .sc (.int .i64 n), .sc (.int .u64 v)] [] (.tup [.arr .u64 12 (setT_ h n v).1, .sc (.int .i64 (setT_ h n v).2)]) [] := by
 refine head_Set_walk h n v (setT_ h n v) ?_
 rw [head_Set_raw]
 unfold setT_
 cases ht : z139 n
 ·rfl
 ·cases hf : fitsH n v
  ·rfl
  ·have hn : (decide (0 ≤ n) && decide (n < ((12 : Nat) : Int))) = true := ht
   simp only [Bool.not_true, cond_false, if_true]
   rw [reqO_eq hn]
noncomputable def z47_F : Go.Sh.Fn := ⟨47, bodyOf Tryz.f47, 15⟩
def z47_l0s (h1 : List Int) : Nat → Nat → Sum (Unit) (Bool)
 | 0, t6 =>
  (.inl ())
 | rest + 1, t6 =>
  (bif (!(fitsH ((t6 : Nat) : Int) (h1.getD t6 0))) then
   (.inr false)
  else
   z47_l0s h1 rest (t6 + 1) )
theorem z47_l0_walk (h1 : List Int) (r : Bool) (c0 : Ctx) (hc0 : c0.m.length = 0) (res : Sum (Unit) (Bool)) (J : ∀ w : Unit, res = .inl w → AX Tryz.prog tab z47_F c0 (Rp tab.S c0 (.sc (.bool r)) []) (some ⟨[.code [1, 1]], [], [.box 37 [.arr .u64 12 h1]]⟩)) (Jr : ∀ w, res = .inr w → w = r) :
  ∀ (rest : Nat) (t6 : Nat) (z : Int) (hI : z = ((t6 : Nat) : Int)) (hd : t6 + rest = 12) (H : z47_l0s h1 rest t6 = res), AX Tryz.prog tab z47_F c0 (Rp tab.S c0 (.sc (.bool r)) []) (some ⟨[.code [1, 0, 1, 0, 0], .loop [1, 0, 1, 0], .blk 0, .code [1, 1]], [(5, .arr .u64 12 h1), (6, .sc (.int .i64 z))], [.box 37 [.arr .u64 12 h1]]⟩) := by
 intro rest
 induction rest with
 | zero =>
  intro t6 z hI hd  H
  subst hI
  rw [z47_l0s] at H
  have hc : (decide (((t6 : Nat) : Int) < 12)) = false := decide_eq_false (by omega)
  exact .sg 3 [5,6,7] (.cdF hc (.sg 1 [] (.kp [] (.to (J () H.symm)))))
 | succ rest ih =>
  intro t6 z hI hd  H
  subst hI
  rw [z47_l0s] at H
  have hlt_t6 : t6 < 12 := by omega
  have hc : (decide (((t6 : Nat) : Int) < 12)) = true := decide_eq_true (by omega)
  have hw : IntKind.i64.wrap (((t6 : Nat) : Int) + 1) = ((t6 + 1 : Nat) : Int) := wrapI_succ (by omega)
  refine .sg 3 [5,6,7] (.cdT hc (.sg 4 [5,6] (.rg (.sg 1 [5,6,8] ?_))))
  have hreq := idx_in 12 hlt_t6 (by decide)
  refine .xv [5,6,8,9] hreq (.sg 2 [3,4,5,6] (.dn (.sg 1 [3,4,5,6] (.rg (.sg 2 [5,6,10,11] (.cp [5,6,12] (z81_ok ((t6 : Nat) : Int) (h1.getD t6 0)) (.sg 1 [5,6,13] (.dn (.cd (!(fitsH ((t6 : Nat) : Int) (h1.getD t6 0))) H (fun hb H => ?_) (fun hb H => ?_))))))))))
  ·
   refine .sg 2 [2] ?_
   subst H
   obtain rfl := Jr _ rfl
   exact .ret Tryz.func47 hc0
  ·
   exact .sg 3 [5,6] (.kp [5,6] (.into (.cl (ih (t6 + 1) _ hw (by omega) H))))
def z47 (h1 : List Int) : Bool :=
 sumG (fun q => q) (z47_l0s h1 12 0) fun v =>
 true
theorem z47_calls (h1 : List Int) : ACalls Tryz.prog tab.S 47 [.arr .u64 12 h1] [] (.sc (.bool (z47 h1))) [] := by
 generalize H : z47 h1 = r
 refine .of_AX z47_F Tryz.func47 fun c0 hc0 => ?_
 rw [z47] at H
 refine .sg 6 [5,6] ?_
 rcases sumG_eq H with ⟨v, hv, H⟩ | ⟨r1, hv, hr1⟩
 case inr =>
  refine .into ?_
  replace hr1 : r1 = r := hr1
  subst hr1
  exact .to (z47_l0_walk h1 _ c0 hc0 (.inr _) (fun _ e => by cases e) (fun _ e => (Sum.inr.inj e).symm) 12 0 _ rfl rfl hv)
 refine .into (.to (z47_l0_walk h1 r c0 hc0 (.inl v) (fun w e => ?_) (fun _ e => by cases e) 12 0 _ rfl rfl hv))
 have e := Sum.inl.inj e
 subst e
 refine .sg 2 [2] ?_
 subst H
 exact .ret Tryz.func47 hc0
noncomputable def z152_F : Go.Sh.Fn := ⟨152, bodyOf Tryz.f152, 23⟩
def z152_l0s (c : Cube) : Nat → Nat → Sum (Unit) (Bool)
 | 0, t11 =>
  (.inl ())
 | rest + 1, t11 =>
  (bif ((IntKind.u64.wrap ((BitVec.ofInt 64 (c.Value.getD t11 0) &&& ~~~ (BitVec.ofInt 64 (c.Care.getD (t11) 0))).toNat)) != 0) then
   (.inr false)
  else
   z152_l0s c rest (t11 + 1) )
theorem z152_l0_walk (c : Cube) (r : Bool) (c0 : Ctx) (hc0 : c0.m.length = 0) (res : Sum (Unit) (Bool)) (J : ∀ w : Unit, res = .inl w → AX Tryz.prog tab z152_F c0 (Rp tab.S c0 (.sc (.bool r)) []) (some ⟨[.code [1, 1, 1]], [], [.box 39 (Cube.ch c)]⟩)) (Jr : ∀ w, res = .inr w → w = r) :
  ∀ (rest : Nat) (t11 : Nat) (z : Int) (hI : z = ((t11 : Nat) : Int)) (hd : t11 + rest = 12) (H : z152_l0s c rest t11 = res), AX Tryz.prog tab z152_F c0 (Rp tab.S c0 (.sc (.bool r)) []) (some ⟨[.code [1, 1, 0, 1, 0, 0], .loop [1, 1, 0, 1, 0], .blk 0, .code [1, 1, 1]], [(1, .ptr 0 0 none), (10, .arr .u64 12 c.Value), (11, .sc (.int .i64 z))], [.box 39 (Cube.ch c)]⟩) := by
 intro rest
 induction rest with
 | zero =>
  intro t11 z hI hd  H
  subst hI
  rw [z152_l0s] at H
  have hc : (decide (((t11 : Nat) : Int) < 12)) = false := decide_eq_false (by omega)
  exact .sg 3 [1,10,11,12] (.cdF hc (.sg 1 [] (.kp [] (.to (J () H.symm)))))
 | succ rest ih =>
  intro t11 z hI hd  H
  subst hI
  rw [z152_l0s] at H
  have hlt_t11 : t11 < 12 := by omega
  have hc : (decide (((t11 : Nat) : Int) < 12)) = true := decide_eq_true (by omega)
  have hw : IntKind.i64.wrap (((t11 : Nat) : Int) + 1) = ((t11 + 1 : Nat) : Int) := wrapI_succ (by omega)
  refine .sg 3 [1,10,11,12] (.cdT hc (.sg 4 [1,10,11] (.rg (.sg 1 [1,10,11,13] ?_))))
  have hreq := idx_in 12 hlt_t11 (by decide)
  refine .xv [1,10,11,13,14] hreq (.sg 2 [1,3,4,10,11] (.dn (.sg 1 [1,3,4,10,11] (.rg (.sg 3 [1,10,11,15,16,17] ?_)))))
  have hreq := idx_in 12 hlt_t11 (by decide)
  refine .xa [1,10,11,15,18] hreq (.sg 3 [1,10,11,21] (.dn (.cd ((IntKind.u64.wrap ((BitVec.ofInt 64 (c.Value.getD t11 0) &&& ~~~ (BitVec.ofInt 64 (c.Care.getD (t11) 0))).toNat)) != 0) H (fun hb H => ?_) (fun hb H => ?_))))
  ·
   refine .sg 2 [2] ?_
   subst H
   obtain rfl := Jr _ rfl
   exact .ret Tryz.func152 hc0
  ·
   exact .sg 3 [1,10,11] (.kp [1,10,11] (.into (.cl (ih (t11 + 1) _ hw (by omega) H))))
def z152 (c : Cube) : Bool :=
 (bif (!(z47 c.Care)) then
  false
 else
  sumG (fun q => q) (z152_l0s c 12 0) fun v =>
  true)
theorem z152_calls (c : Cube) : ACalls Tryz.prog tab.S 152 [Cube.av c] [] (.sc (.bool (z152 c))) [] := by
 generalize H : z152 c = r
 refine .of_AX z152_F Tryz.func152 fun c0 hc0 => ?_
 rw [z152] at H
 refine .sg 4 [1] (.rg (.sg 2 [1,6] (.cp [1,7] (z47_calls c.Care) (.sg 1 [1,8] (.dn (.cd (!(z47 c.Care)) H (fun hb H => ?_) (fun hb H => ?_)))))))
 ·
  refine .sg 2 [2] ?_
  subst H
  exact .ret Tryz.func152 hc0
 ·
  refine .sg 5 [1,10,11] ?_
  rcases sumG_eq H with ⟨v, hv, H⟩ | ⟨r1, hv, hr1⟩
  case inr =>
   refine .into ?_
   replace hr1 : r1 = r := hr1
   subst hr1
   exact .to (z152_l0_walk c _ c0 hc0 (.inr _) (fun _ e => by cases e) (fun _ e => (Sum.inr.inj e).symm) 12 0 _ rfl rfl hv)
  refine .into (.to (z152_l0_walk c r c0 hc0 (.inl v) (fun w e => ?_) (fun _ e => by cases e) 12 0 _ rfl rfl hv))
  have e := Sum.inl.inj e
  subst e
  refine .sg 2 [2] ?_
  subst H
  exact .ret Tryz.func152 hc0
noncomputable def z171_F : Go.Sh.Fn := ⟨171, bodyOf Tryz.f171, 48⟩
def z171 (a : Act) : Bool :=
 (bif (a.Kind == 1) then
  ((((decide (a.Port ≥ 1)) && (decide (a.Port ≤ 16))) && (a.Field == 0)) && (a.Value == 0))
 else
  (bif (a.Kind == 2) then
   (((setT_ [0, 0, 0, 0, 0, 0, 0, 0, 0, 0, 0, 0] a.Field a.Value).2 == 0) && (a.Port == 0))
  else
   ((a.Kind == 3) && ((a.Port == 0) && ((a.Field == 0) && (a.Value == 0))))))
theorem z171_calls (a : Act) : ACalls Tryz.prog tab.S 171 [Act.av a] [] (.sc (.bool (z171 a))) [] := by
 generalize H : z171 a = r
 refine .of_AX z171_F Tryz.func171 fun c0 hc0 => ?_
 rw [z171] at H
 refine .sg 8 [1,6,7] (.cd (a.Kind == 1) H (fun hb H => ?_) (fun hb H => ?_))
 ·
  refine .sg 1 [1] (.rg (.sg 4 [1,12] (.mx 0 [1,16] (.sg 1 [1,17] (.mx 0 [1,21] (.sg 1 [1,22] (.mx 0 [26] (.sg 1 [2] (.dn ?_)))))))))
  subst H
  exact .ret Tryz.func171 hc0
 ·
  refine .sg 2 [1,27] (.cd (a.Kind == 2) H (fun hb H => ?_) (fun hb H => ?_))
  ·
   refine .sg 1 [1] (.rg (.sg 5 [1,30,32,34] (.cp [1,35] (head_Set_ok [0, 0, 0, 0, 0, 0, 0, 0, 0, 0, 0, 0] a.Field a.Value) (.sg 6 [1,4] (.dn (.sg 1 [1,4] (.rg (.sg 3 [1,40] (.mx 0 [44] (.sg 1 [2] (.dn ?_)))))))))))
   subst H
   exact .ret Tryz.func171 hc0
  ·
   refine .sg 3 [1] (.rg (.sg 2 [45,46] (.eq_ [47] 9 (.sg 1 [2] (.dn ?_)))))
   subst H
   exact .ret Tryz.func171 hc0
noncomputable def z181_F : Go.Sh.Fn := ⟨181, bodyOf Tryz.f181, 19⟩
def z181_l0s (f : Act → Bool) : List Act → Nat → Sum (Unit) (Int)
 | [], t8 =>
  (.inl ())
 | x :: rest, t8 =>
  (bif (f x) then
   (.inr ((t8 : Nat) : Int))
  else
   z181_l0s f rest (t8 + 1) )
theorem z181_l0_walk (s : List Act) (F_f : FuncId) (C_f : List AV) (f : Act → Bool) (P_f : plainL C_f = true) (O_f : C_f.all oneA = true) (H_f : ∀ (y0 : Act), ACalls Tryz.prog tab.S F_f ([Act.av y0] ++ C_f) [] (.sc (.bool (f y0))) []) (f_s : Bool) (r : Int) (c0 : Ctx) (hc0 : c0.m.length = 0) (res : Sum (Unit) (Int)) (J : ∀ w : Unit, res = .inl w → AX Tryz.prog tab z181_F c0 (Rp tab.S c0 (.sc (.int .i64 r)) []) (some ⟨[.code [1, 1]], [], []⟩)) (Jr : ∀ w, res = .inr w → w = r) :
  ∀ (rest : List Act) (t8 : Nat) (z : Int) (hI : z = ((t8 : Nat) : Int)) (hd : s.drop t8 = rest) (H : z181_l0s f rest t8 = res), AX Tryz.prog tab z181_F c0 (Rp tab.S c0 (.sc (.int .i64 r)) []) (some ⟨[.code [1, 0, 1, 0, 0], .loop [1, 0, 1, 0], .blk 0, .code [1, 1]], [(0, .sl 60 (List.map Act.av s) f_s), (1, .fn F_f C_f), (7, .sc (.int .i64 (((List.map Act.av s).length : Nat) : Int))), (8, .sc (.int .i64 z))], []⟩) := by
 intro rest
 induction rest with
 | nil =>
  intro t8 z hI hd  H
  subst hI
  rw [z181_l0s] at H
  refine .facts 0 fun hf => ?_
  have hlen : s.length ≤ 9223372036854775807 := by have hq := len_ok hf.2.1; rw [List.length_map] at hq; exact hq
  have hge : s.length ≤ t8 := List.drop_eq_nil_iff.1 hd
  have hc : (decide (((t8 : Nat) : Int) < (((List.map Act.av s).length : Nat) : Int))) = false := by rw [List.length_map]; exact decide_eq_false (by omega)
  exact .sg 3 [0,1,7,8,9] (.cdF hc (.sg 1 [] (.kp [] (.to (J () H.symm)))))
 | cons x rest ih =>
  intro t8 z hI hd  H
  subst hI
  rw [z181_l0s] at H
  refine .facts 0 fun hf => ?_
  have hlen : s.length ≤ 9223372036854775807 := by have hq := len_ok hf.2.1; rw [List.length_map] at hq; exact hq
  obtain ⟨hlt, hv_t8, hd2⟩ := drop_cons hd
  have hc : (decide (((t8 : Nat) : Int) < (((List.map Act.av s).length : Nat) : Int))) = true := by rw [List.length_map]; exact decide_eq_true (by omega)
  have hw : IntKind.i64.wrap (((t8 : Nat) : Int) + 1) = ((t8 + 1 : Nat) : Int) := wrapI_succ (by omega)
  refine .sg 3 [0,1,7,8,9] (.cdT hc (.sg 6 [0,1,5,7,8] (.rg (.sg 3 [0,1,5,7,8,11,12,13] (.xi [0,1,5,7,8,11,14] Act.av hv_t8 (.sg 1 [0,1,5,7,8,11,15] (.cf [0,1,5,7,8,16] (H_f x) P_f O_f (.dn (.cd (f x) H (fun hb H => ?_) (fun hb H => ?_))))))))))
  ·
   refine .sg 2 [4] ?_
   subst H
   obtain rfl := Jr _ rfl
   exact .ret Tryz.func181 hc0
  ·
   exact .sg 3 [0,1,7,8] (.kp [0,1,7,8] (.into (.cl (ih (t8 + 1) _ hw hd2 H))))
def z181 (s : List Act) (f : Act → Bool) : Int :=
 sumG (fun q => q) (z181_l0s f s 0) fun v =>
 (-1)
theorem z181_calls (s : List Act) (F_f : FuncId) (C_f : List AV) (f : Act → Bool) (P_f : plainL C_f = true) (O_f : C_f.all oneA = true) (H_f : ∀ (y0 : Act), ACalls Tryz.prog tab.S F_f ([Act.av y0] ++ C_f) [] (.sc (.bool (f y0))) []) (f_s : Bool) : ACalls Tryz.prog tab.S 181 [.sl 60 (List.map Act.av s) f_s, .fn F_f C_f] [] (.sc (.int .i64 (z181 s f))) [] := by
 generalize H : z181 s f = r
 refine .of_AX z181_F Tryz.func181 fun c0 hc0 => ?_
 rw [z181] at H
 refine .sg 6 [0,1,7,8] ?_
 rcases sumG_eq H with ⟨v, hv, H⟩ | ⟨r1, hv, hr1⟩
 case inr =>
  refine .into ?_
  replace hr1 : r1 = r := hr1
  subst hr1
  exact .to (z181_l0_walk s F_f C_f f P_f O_f H_f f_s _ c0 hc0 (.inr _) (fun _ e => by cases e) (fun _ e => (Sum.inr.inj e).symm) s 0 _ rfl rfl hv)
 refine .into (.to (z181_l0_walk s F_f C_f f P_f O_f H_f f_s r c0 hc0 (.inl v) (fun w e => ?_) (fun _ e => by cases e) s 0 _ rfl rfl hv))
 have e := Sum.inl.inj e
 subst e
 refine .sg 2 [4] ?_
 subst H
 exact .ret Tryz.func181 hc0
noncomputable def z169_F : Go.Sh.Fn := ⟨169, bodyOf Tryz.f169, 9⟩
def z169 (s : List Act) (f : Act → Bool) : Bool :=
 (decide ((z181 s f) ≥ 0))
theorem z169_calls (s : List Act) (F_f : FuncId) (C_f : List AV) (f : Act → Bool) (P_f : plainL C_f = true) (O_f : C_f.all oneA = true) (H_f : ∀ (y0 : Act), ACalls Tryz.prog tab.S F_f ([Act.av y0] ++ C_f) [] (.sc (.bool (f y0))) []) (f_s : Bool) : ACalls Tryz.prog tab.S 169 [.sl 60 (List.map Act.av s) f_s, .fn F_f C_f] [] (.sc (.bool (z169 s f))) [] := by
 generalize H : z169 s f = r
 refine .of_AX z169_F Tryz.func169 fun c0 hc0 => ?_
 rw [z169] at H
 refine .sg 3 [0,1] (.rg (.sg 2 [5,6] (.cl_ [7] (caps := []) (z181_calls s F_f C_f f P_f O_f H_f f_s) (.same rfl (.fn (caps := C_f) (lendC_plain C_f P_f) .nil)) (by kernel_rfl) rfl rfl (.sg 2 [4] (.dn ?_)))))
 subst H
 exact .ret Tryz.func169 hc0
noncomputable def z170_F : Go.Sh.Fn := ⟨170, bodyOf Tryz.f170, 6⟩
def z170 (a : Act) : Bool :=
 (!(z171 a))
theorem z170_calls (a : Act) : ACalls Tryz.prog tab.S 170 [Act.av a] [] (.sc (.bool (z170 a))) [] := by
 generalize H : z170 a = r
 refine .of_AX z170_F Tryz.func170 fun c0 hc0 => ?_
 rw [z170] at H
 refine .sg 3 [1] (.rg (.sg 1 [3] (.cp [4] (z171_calls a) (.sg 2 [2] (.dn ?_)))))
 subst H
 exact .ret Tryz.func170 hc0
noncomputable def z144_F : Go.Sh.Fn := ⟨144, bodyOf Tryz.f144, 11⟩
def z144 (list : List Act) : Bool :=
 ((decide ((((List.map Act.av list).length : Nat) : Int) ≤ 8)) && (!(z169 list z170)))
theorem z144_calls (list : List Act) (f_list : Bool) : ACalls Tryz.prog tab.S 144 [.sl 60 (List.map Act.av list) f_list] [] (.sc (.bool (z144 list))) [] := by
 generalize H : z144 list = r
 refine .of_AX z144_F Tryz.func144 fun c0 hc0 => ?_
 rw [z144] at H
 refine .sg 3 [0] (.rg (.sg 4 [0,6] (.mm 6 (decide ((((List.map Act.av list).length : Nat) : Int) ≤ 8)) 4 [.pure, .pure, .read, .pure] [10] 10 (fun z => .sc (.bool (z && (!(z169 list z170))))) ?J1 (fun hb J => ?ht1) (fun hb J => ?hf1))))
 case ht1 =>
  exact .sg 1 [6,7] (.cl_ [6,8] (caps := []) (z169_calls list 170 [] z170 rfl rfl (fun y0 => z170_calls y0) f_list) (.same rfl (.fn (caps := []) (by kernel_rfl) .nil)) (by kernel_rfl) rfl rfl (.sg 2 [10] (.cl J)))
 case hf1 =>
  exact .sg 4 [10] (.cl J)
 refine .sg 1 [2] (.dn ?_)
 subst H
 exact .ret Tryz.func144 hc0
noncomputable def z176_F : Go.Sh.Fn := ⟨176, bodyOf Tryz.f176, 12⟩
def z176 (n : Int) (most : Int) : Bool :=
 ((decide (n ≥ 0)) && (decide (n ≤ most)))
theorem z176_calls (n : Int) (most : Int) : ACalls Tryz.prog tab.S 176 [.sc (.int .i64 n), .sc (.int .i64 most)] [] (.sc (.bool (z176 n most))) [] := by
 generalize H : z176 n most = r
 refine .of_AX z176_F Tryz.func176 fun c0 hc0 => ?_
 rw [z176] at H
 refine .sg 3 [0,1] (.rg (.sg 3 [0,1,7] (.mx 0 [11] (.sg 1 [4] (.dn ?_)))))
 subst H
 exact .ret Tryz.func176 hc0
noncomputable def z155_F : Go.Sh.Fn := ⟨155, bodyOf Tryz.f155, 41⟩
def z155 (r2 : Rule) : Bool :=
 (((((((z152 r2.Match) && (z144 r2.Acts)) && (z176 r2.Prio 65535)) && (z176 r2.Idle 1048576)) && (z176 r2.Hard 1048576)) && (z176 r2.Owner 255)) && (decide ((if r2.Age < (if r2.Quiet < r2.Hits then r2.Quiet else r2.Hits) then r2.Age else (if r2.Quiet < r2.Hits then r2.Quiet else r2.Hits)) ≥ 0)))
theorem z155_calls (r2 : Rule) : ACalls Tryz.prog tab.S 155 [Rule.av r2] [] (.sc (.bool (z155 r2))) [] := by
 generalize H : z155 r2 = r
 refine .of_AX z155_F Tryz.func155 fun c0 hc0 => ?_
 rw [z155] at H
 refine .sg 3 [1] (.rg (.sg 2 [1,4] (.cp [1,5] (z152_calls r2.Match) (.sg 1 [1,6] (.mm 6 (z152 r2.Match) 4 [.pure, .pure, .read, .pure] [1, 10] 10 (fun z => .sc (.bool (z && (z144 r2.Acts)))) ?J1 (fun hb J => ?ht1) (fun hb J => ?hf1))))))
 case ht1 =>
  exact .sg 2 [1,6,8] (.cp [1,6,9] (z144_calls r2.Acts false) (.sg 1 [1,10] (.cl J)))
 case hf1 =>
  exact .sg 4 [1,10] (.cl J)
 refine .sg 1 [1,11] (.mm 11 ((z152 r2.Match) && (z144 r2.Acts)) 4 [.pure, .pure, .read, .pure] [1, 15] 15 (fun z => .sc (.bool (z && (z176 r2.Prio 65535)))) ?J2 (fun hb J => ?ht2) (fun hb J => ?hf2))
 case ht2 =>
  exact .sg 2 [1,11,13] (.cp [1,11,14] (z176_calls r2.Prio 65535) (.sg 1 [1,15] (.cl J)))
 case hf2 =>
  exact .sg 4 [1,15] (.cl J)
 refine .sg 1 [1,16] (.mm 16 (((z152 r2.Match) && (z144 r2.Acts)) && (z176 r2.Prio 65535)) 4 [.pure, .pure, .read, .pure] [1, 20] 20 (fun z => .sc (.bool (z && (z176 r2.Idle 1048576)))) ?J3 (fun hb J => ?ht3) (fun hb J => ?hf3))
 case ht3 =>
  exact .sg 2 [1,16,18] (.cp [1,16,19] (z176_calls r2.Idle 1048576) (.sg 1 [1,20] (.cl J)))
 case hf3 =>
  exact .sg 4 [1,20] (.cl J)
 refine .sg 1 [1,21] (.mm 21 ((((z152 r2.Match) && (z144 r2.Acts)) && (z176 r2.Prio 65535)) && (z176 r2.Idle 1048576)) 4 [.pure, .pure, .read, .pure] [1, 25] 25 (fun z => .sc (.bool (z && (z176 r2.Hard 1048576)))) ?J4 (fun hb J => ?ht4) (fun hb J => ?hf4))
 case ht4 =>
  exact .sg 2 [1,21,23] (.cp [1,21,24] (z176_calls r2.Hard 1048576) (.sg 1 [1,25] (.cl J)))
 case hf4 =>
  exact .sg 4 [1,25] (.cl J)
 refine .sg 1 [1,26] (.mm 26 (((((z152 r2.Match) && (z144 r2.Acts)) && (z176 r2.Prio 65535)) && (z176 r2.Idle 1048576)) && (z176 r2.Hard 1048576)) 4 [.pure, .pure, .read, .pure] [1, 30] 30 (fun z => .sc (.bool (z && (z176 r2.Owner 255)))) ?J5 (fun hb J => ?ht5) (fun hb J => ?hf5))
 case ht5 =>
  exact .sg 2 [1,26,28] (.cp [1,26,29] (z176_calls r2.Owner 255) (.sg 1 [1,30] (.cl J)))
 case hf5 =>
  exact .sg 4 [1,30] (.cl J)
 refine .sg 1 [1,31] (.mm 31 ((((((z152 r2.Match) && (z144 r2.Acts)) && (z176 r2.Prio 65535)) && (z176 r2.Idle 1048576)) && (z176 r2.Hard 1048576)) && (z176 r2.Owner 255)) 9 [.pure, .pure, .pure, .read, .pure, .read, .pure, .read, .pure] [40] 40 (fun z => .sc (.bool (z && (decide ((if r2.Age < (if r2.Quiet < r2.Hits then r2.Quiet else r2.Hits) then r2.Age else (if r2.Quiet < r2.Hits then r2.Quiet else r2.Hits)) ≥ 0))))) ?J6 (fun hb J => ?ht6) (fun hb J => ?hf6))
 case ht6 =>
  exact .sg 6 [31,33,35,37] (.m3 [31,38] (.sg 2 [40] (.cl J)))
 case hf6 =>
  exact .sg 9 [40] (.cl J)
 refine .sg 1 [2] (.dn ?_)
 subst H
 exact .ret Tryz.func155 hc0
noncomputable def z153_F : Go.Sh.Fn := ⟨153, bodyOf Tryz.f153, 12⟩
def z153 (n : Int) (most : Int) : Bool :=
 ((decide (n ≥ 0)) && (decide (n ≤ most)))
theorem z153_calls (n : Int) (most : Int) : ACalls Tryz.prog tab.S 153 [.sc (.int .i64 n), .sc (.int .i64 most)] [] (.sc (.bool (z153 n most))) [] := by
 generalize H : z153 n most = r
 refine .of_AX z153_F Tryz.func153 fun c0 hc0 => ?_
 rw [z153] at H
 refine .sg 3 [0,1] (.rg (.sg 3 [0,1,7] (.mx 0 [11] (.sg 1 [4] (.dn ?_)))))
 subst H
 exact .ret Tryz.func153 hc0
noncomputable def z154_F : Go.Sh.Fn := ⟨154, bodyOf Tryz.f154, 16⟩
def z154 (m1 : Mod) : Bool :=
 (((m1.Idle == 0) && (m1.Hard == 0)) && (!m1.Check))
theorem z154_calls (m1 : Mod) : ACalls Tryz.prog tab.S 154 [Mod.av m1] [] (.sc (.bool (z154 m1))) [] := by
 generalize H : z154 m1 = r
 refine .of_AX z154_F Tryz.func154 fun c0 hc0 => ?_
 rw [z154] at H
 refine .sg 3 [1] (.rg (.sg 4 [1,6] (.mx 0 [1,10] (.sg 1 [1,11] (.mx 0 [15] (.sg 1 [2] (.dn ?_)))))))
 subst H
 exact .ret Tryz.func154 hc0
noncomputable def z129_F : Go.Sh.Fn := ⟨129, bodyOf Tryz.f129, 75⟩
def z129 (m1 : Mod) : Bool :=
 (bif ((((!(z152 m1.Match)) || (!(z144 m1.Acts))) || (!(z153 m1.Prio 65535))) || (!(z153 m1.Owner 255))) then
  false
 else
  (bif (m1.Kind == 1) then
   ((z153 m1.Idle 1048576) && (z153 m1.Hard 1048576))
  else
   (bif (m1.Kind == 2) then
    ((z154 m1) && (m1.Prio == 0))
   else
    (bif (m1.Kind == 3) then
     (((z154 m1) && (m1.Prio == 0)) && ((((List.map Act.av m1.Acts).length : Nat) : Int) == 0))
    else
     (bif (m1.Kind == 4) then
      (z154 m1)
     else
      (bif (m1.Kind == 5) then
       ((z154 m1) && ((((List.map Act.av m1.Acts).length : Nat) : Int) == 0))
      else
       false))))))
theorem z129_calls (m1 : Mod) : ACalls Tryz.prog tab.S 129 [Mod.av m1] [] (.sc (.bool (z129 m1))) [] := by
 generalize H : z129 m1 = r
 refine .of_AX z129_F Tryz.func129 fun c0 hc0 => ?_
 rw [z129] at H
 refine .sg 4 [1] (.rg (.sg 2 [1,4] (.cp [1,5] (z152_calls m1.Match) (.sg 2 [1,7] (.mm 7 (!(z152 m1.Match)) 5 [.pure, .pure, .pure, .read, .pure] [1, 12] 12 (fun z => .sc (.bool (z || (!(z144 m1.Acts))))) ?J1 (fun hb J => ?ht1) (fun hb J => ?hf1))))))
 case ht1 =>
  exact .sg 5 [1,12] (.cl J)
 case hf1 =>
  exact .sg 2 [1,7,9] (.cp [1,7,10] (z144_calls m1.Acts false) (.sg 2 [1,12] (.cl J)))
 refine .sg 1 [1,13] (.mm 13 ((!(z152 m1.Match)) || (!(z144 m1.Acts))) 5 [.pure, .pure, .pure, .read, .pure] [1, 18] 18 (fun z => .sc (.bool (z || (!(z153 m1.Prio 65535))))) ?J2 (fun hb J => ?ht2) (fun hb J => ?hf2))
 case ht2 =>
  exact .sg 5 [1,18] (.cl J)
 case hf2 =>
  exact .sg 2 [1,13,15] (.cp [1,13,16] (z153_calls m1.Prio 65535) (.sg 2 [1,18] (.cl J)))
 refine .sg 1 [1,19] (.mm 19 (((!(z152 m1.Match)) || (!(z144 m1.Acts))) || (!(z153 m1.Prio 65535))) 5 [.pure, .pure, .pure, .read, .pure] [1, 24] 24 (fun z => .sc (.bool (z || (!(z153 m1.Owner 255))))) ?J3 (fun hb J => ?ht3) (fun hb J => ?hf3))
 case ht3 =>
  exact .sg 5 [1,24] (.cl J)
 case hf3 =>
  exact .sg 2 [1,19,21] (.cp [1,19,22] (z153_calls m1.Owner 255) (.sg 2 [1,24] (.cl J)))
 refine .dn (.cd ((((!(z152 m1.Match)) || (!(z144 m1.Acts))) || (!(z153 m1.Prio 65535))) || (!(z153 m1.Owner 255))) H (fun hb H => ?_) (fun hb H => ?_))
 ·
  refine .sg 2 [2] ?_
  subst H
  exact .ret Tryz.func129 hc0
 ·
  refine .sg 7 [1,26,27] (.cd (m1.Kind == 1) H (fun hb H => ?_) (fun hb H => ?_))
  ·
   refine .sg 1 [1] (.rg (.sg 2 [1,30] (.cp [1,31] (z153_calls m1.Idle 1048576) (.sg 1 [1,32] (.mm 32 (z153 m1.Idle 1048576) 4 [.pure, .pure, .read, .pure] [36] 36 (fun z => .sc (.bool (z && (z153 m1.Hard 1048576)))) ?J5 (fun hb J => ?ht5) (fun hb J => ?hf5))))))
   case ht5 =>
    exact .sg 2 [32,34] (.cp [32,35] (z153_calls m1.Hard 1048576) (.sg 1 [36] (.cl J)))
   case hf5 =>
    exact .sg 4 [36] (.cl J)
   refine .sg 1 [2] (.dn ?_)
   subst H
   exact .ret Tryz.func129 hc0
  ·
   refine .sg 2 [1,26,37] (.cd (m1.Kind == 2) H (fun hb H => ?_) (fun hb H => ?_))
   ·
    refine .sg 1 [1] (.rg (.sg 1 [1,39] (.cp [1,40] (z154_calls m1) (.sg 1 [1,41] (.mx 0 [45] (.sg 1 [2] (.dn ?_)))))))
    subst H
    exact .ret Tryz.func129 hc0
   ·
    refine .sg 2 [1,26,46] (.cd (m1.Kind == 3) H (fun hb H => ?_) (fun hb H => ?_))
    ·
     refine .sg 1 [1] (.rg (.sg 1 [1,48] (.cp [1,49] (z154_calls m1) (.sg 1 [1,50] (.mx 0 [1,54] (.sg 1 [1,55] (.mx 0 [60] (.sg 1 [2] (.dn ?_)))))))))
     subst H
     exact .ret Tryz.func129 hc0
    ·
     refine .sg 2 [1,26,61] (.cd (m1.Kind == 4) H (fun hb H => ?_) (fun hb H => ?_))
     ·
      refine .sg 1 [1] (.rg (.sg 1 [63] (.cp [64] (z154_calls m1) (.sg 1 [2] (.dn ?_)))))
      subst H
      exact .ret Tryz.func129 hc0
     ·
      refine .sg 2 [1,65] (.cd (m1.Kind == 5) H (fun hb H => ?_) (fun hb H => ?_))
      ·
       refine .sg 1 [1] (.rg (.sg 1 [1,67] (.cp [1,68] (z154_calls m1) (.sg 1 [1,69] (.mx 0 [74] (.sg 1 [2] (.dn ?_)))))))
       subst H
       exact .ret Tryz.func129 hc0
      ·
       refine .sg 4 [2] ?_
       subst H
       exact .ret Tryz.func129 hc0
theorem Act.beq_eq (x y : Act) : ((x.Kind == y.Kind) && ((x.Port == y.Port) && ((x.Field == y.Field) && (x.Value == y.Value)))) = (x == y) := by
 rw [Bool.eq_iff_iff]
 simp only [Bool.and_eq_true, beq_iff_eq]
 cases x; cases y
 simp
noncomputable def z184_F : Go.Sh.Fn := ⟨184, bodyOf Tryz.f184, 26⟩
def z184_l0s (s2 : List Act) : List Act → Nat → Option (Sum (Unit) (Bool))
 | [], t13 =>
  some (.inl ())
 | x :: rest, t13 =>
  (ixO s2 ((t13 : Nat) : Int)).bind fun x1 =>
  (bif (!((x.Kind == x1.Kind) && ((x.Port == x1.Port) && ((x.Field == x1.Field) && (x.Value == x1.Value))))) then
   some (.inr false)
  else
   z184_l0s s2 rest (t13 + 1) )
theorem z184_l0_walk (s1 : List Act) (s2 : List Act) (f_s1 : Bool) (f_s2 : Bool) (r : Bool) (c0 : Ctx) (hc0 : c0.m.length = 0) (res : Sum (Unit) (Bool)) (J : ∀ w : Unit, res = .inl w → AX Tryz.prog tab z184_F c0 (Rp tab.S c0 (.sc (.bool r)) []) (some ⟨[.code [1, 1, 1]], [], []⟩)) (Jr : ∀ w, res = .inr w → w = r) :
  ∀ (rest : List Act) (t13 : Nat) (z : Int) (hI : z = ((t13 : Nat) : Int)) (hd : s1.drop t13 = rest) (H : z184_l0s s2 rest t13 = some res), AX Tryz.prog tab z184_F c0 (Rp tab.S c0 (.sc (.bool r)) []) (some ⟨[.code [1, 1, 0, 1, 0, 0], .loop [1, 1, 0, 1, 0], .blk 0, .code [1, 1, 1]], [(0, .sl 60 (List.map Act.av s1) f_s1), (1, .sl 60 (List.map Act.av s2) f_s2), (12, .sc (.int .i64 (((List.map Act.av s1).length : Nat) : Int))), (13, .sc (.int .i64 z))], []⟩) := by
 intro rest
 induction rest with
 | nil =>
  intro t13 z hI hd  H
  subst hI
  rw [z184_l0s] at H
  refine .facts 0 fun hf => ?_
  have hlen : s1.length ≤ 9223372036854775807 := by have hq := len_ok hf.2.1; rw [List.length_map] at hq; exact hq
  have hge : s1.length ≤ t13 := List.drop_eq_nil_iff.1 hd
  have hc : (decide (((t13 : Nat) : Int) < (((List.map Act.av s1).length : Nat) : Int))) = false := by rw [List.length_map]; exact decide_eq_false (by omega)
  exact .sg 3 [0,1,12,13,14] (.cdF hc (.sg 1 [] (.kp [] (.to (J () (Option.some.inj H).symm)))))
 | cons x rest ih =>
  intro t13 z hI hd  H
  subst hI
  rw [z184_l0s] at H
  refine .facts 0 fun hf => ?_
  have hlen : s1.length ≤ 9223372036854775807 := by have hq := len_ok hf.2.1; rw [List.length_map] at hq; exact hq
  obtain ⟨hlt, hv_t13, hd2⟩ := drop_cons hd
  have hc : (decide (((t13 : Nat) : Int) < (((List.map Act.av s1).length : Nat) : Int))) = true := by rw [List.length_map]; exact decide_eq_true (by omega)
  have hw : IntKind.i64.wrap (((t13 : Nat) : Int) + 1) = ((t13 + 1 : Nat) : Int) := wrapI_succ (by omega)
  refine .sg 3 [0,1,12,13,14] (.cdT hc (.sg 6 [0,1,5,12,13] (.rg (.sg 2 [0,1,5,12,13,16,17] (.xi [0,1,5,12,13,18] Act.av hv_t13 (.sg 3 [0,1,12,13,19,20,21] (bndO H fun x1 hv H => (.xi [0,1,12,13,19,22] Act.av hv (.sg 1 [0,1,12,13,19,23] (.eq_ [0,1,12,13,24] 9 (.dn (.cd (!((x.Kind == x1.Kind) && ((x.Port == x1.Port) && ((x.Field == x1.Field) && (x.Value == x1.Value))))) H (fun hb H => ?_) (fun hb H => ?_)))))))))))))
  ·
   refine .sg 2 [4] ?_
   obtain rfl := Option.some.inj H
   obtain rfl := Jr _ rfl
   exact .ret Tryz.func184 hc0
  ·
   exact .sg 3 [0,1,12,13] (.kp [0,1,12,13] (.into (.cl (ih (t13 + 1) _ hw hd2 H))))
def z184_raw (s1 : List Act) (s2 : List Act) : Option (Bool) :=
 (bif ((((List.map Act.av s1).length : Nat) : Int) != (((List.map Act.av s2).length : Nat) : Int)) then
  some false
 else
  loopO (z184_l0s s2 s1 0) fun v =>
  some true)
theorem z184_walk (s1 : List Act) (s2 : List Act) (f_s1 : Bool) (f_s2 : Bool) (r : Bool) (H : z184_raw s1 s2 = some r) : ACalls Tryz.prog tab.S 184 [.sl 60 (List.map Act.av s1) f_s1, .sl 60 (List.map Act.av s2) f_s2] [] (.sc (.bool r)) [] := by
 refine .of_AX z184_F Tryz.func184 fun c0 hc0 => ?_
 rw [z184_raw] at H
 refine .sg 5 [0,1,10] (.cd ((((List.map Act.av s1).length : Nat) : Int) != (((List.map Act.av s2).length : Nat) : Int)) H (fun hb H => ?_) (fun hb H => ?_))
 ·
  refine .sg 2 [4] ?_
  obtain rfl := Option.some.inj H
  exact .ret Tryz.func184 hc0
 ·
  refine .sg 5 [0,1,12,13] ?_
  rcases loopO_some H with ⟨v, hv, H⟩ | hv
  case inr =>
   exact .into (.to (z184_l0_walk s1 s2 f_s1 f_s2 _ c0 hc0 (.inr _) (fun _ e => by cases e) (fun _ e => (Sum.inr.inj e).symm) s1 0 _ rfl rfl hv))
  refine .into (.to (z184_l0_walk s1 s2 f_s1 f_s2 r c0 hc0 (.inl v) (fun w e => ?_) (fun _ e => by cases e) s1 0 _ rfl rfl hv))
  have e := Sum.inl.inj e
  subst e
  refine .sg 2 [4] ?_
  obtain rfl := Option.some.inj H
  exact .ret Tryz.func184 hc0
theorem z184_ok (a b : List Act) (f_a f_b : Bool) : ACalls Tryz.prog tab.S 184 [.sl 60 (List.map Act.av a) f_a, .sl 60 (List.map Act.av b) f_b] [] (.sc (.bool (a == b))) [] := by
 refine z184_walk a b f_a f_b _ ?_
 rw [z184_raw, len_bne]
 by_cases h : a.length = b.length
 ·simp only [h, decide_true, Bool.not_true, cond_false]
  rw [cmp_loop (v := false) (z184_l0s b) b (fun x y => x == y) (fun _ => rfl) (fun x r i => by rw [z184_l0s]; simp only [Act.beq_eq]) a 0 (by omega), List.drop_zero, zipAll_beq]
  cases a == b <;> rfl
 ·have e : (a == b) = false := by
   rw [beq_eq_false_iff_ne]
   intro e
   exact h (by rw [e])
  rw [e]
  simp only [h, decide_false, Bool.not_false, cond_true]
noncomputable def act_Same_F : Go.Sh.Fn := ⟨175, bodyOf Tryz.f175, 8⟩
def act_Same (a : List Act) (b : List Act) : Bool :=
 (a == b)
theorem act_Same_calls (a : List Act) (b : List Act) (f_a : Bool) (f_b : Bool) : ACalls Tryz.prog tab.S 175 [.sl 60 (List.map Act.av a) f_a, .sl 60 (List.map Act.av b) f_b] [] (.sc (.bool (act_Same a b))) [] := by
 generalize H : act_Same a b = r
 refine .of_AX act_Same_F Tryz.func175 fun c0 hc0 => ?_
 rw [act_Same] at H
 refine .sg 3 [0,1] (.rg (.sg 2 [5,6] (.cp [7] (z184_ok a b f_a f_b) (.sg 1 [4] (.dn ?_)))))
 subst H
 exact .ret Tryz.func175 hc0
noncomputable def z151_F : Go.Sh.Fn := ⟨151, bodyOf Tryz.f151, 59⟩
def z151 (a : Mod) (b : Mod) : Bool :=
 ((((((((a.Kind == b.Kind) && ((a.Match.Value == b.Match.Value) && (a.Match.Care == b.Match.Care))) && (a.Prio == b.Prio)) && (act_Same a.Acts b.Acts)) && (a.Idle == b.Idle)) && (a.Hard == b.Hard)) && (a.Owner == b.Owner)) && (a.Check == b.Check))
theorem z151_calls (a : Mod) (b : Mod) : ACalls Tryz.prog tab.S 151 [Mod.av a, Mod.av b] [] (.sc (.bool (z151 a b))) [] := by
 generalize H : z151 a b = r
 refine .of_AX z151_F Tryz.func151 fun c0 hc0 => ?_
 rw [z151] at H
 refine .sg 3 [2,3] (.rg (.sg 6 [2,3,10] (.mm 10 (a.Kind == b.Kind) 6 [.pure, .pure, .read, .pure, .read, .pure] [2, 3, 16] 16 (fun z => .sc (.bool (z && ((a.Match.Value == b.Match.Value) && (a.Match.Care == b.Match.Care))))) ?J1 (fun hb J => ?ht1) (fun hb J => ?hf1))))
 case ht1 =>
  exact .sg 4 [2,3,10,12,14] (.eq_ [2,3,10,15] 9 (.sg 1 [2,3,16] (.cl J)))
 case hf1 =>
  exact .sg 6 [2,3,16] (.cl J)
 refine .sg 1 [2,3,17] (.mx 0 [2,3,23] (.sg 1 [2,3,24] (.mm 24 (((a.Kind == b.Kind) && ((a.Match.Value == b.Match.Value) && (a.Match.Care == b.Match.Care))) && (a.Prio == b.Prio)) 6 [.pure, .pure, .read, .pure, .read, .pure] [2, 3, 30] 30 (fun z => .sc (.bool (z && (act_Same a.Acts b.Acts)))) ?J3 (fun hb J => ?ht3) (fun hb J => ?hf3))))
 case ht3 =>
  exact .sg 4 [2,3,24,26,28] (.cp [2,3,24,29] (act_Same_calls a.Acts b.Acts false false) (.sg 1 [2,3,30] (.cl J)))
 case hf3 =>
  exact .sg 6 [2,3,30] (.cl J)
 refine .sg 1 [2,3,31] (.mx 0 [2,3,37] (.sg 1 [2,3,38] (.mx 0 [2,3,44] (.sg 1 [2,3,45] (.mx 0 [2,3,51] (.sg 1 [2,3,52] (.mx 0 [58] (.sg 1 [4] (.dn ?_)))))))))
 subst H
 exact .ret Tryz.func151 hc0
noncomputable def z128_F : Go.Sh.Fn := ⟨128, bodyOf Tryz.f128, 29⟩
def z128 (m1 : Msg) : Bool :=
 (((((m1.E == 0) && (z151 m1.Mod ({ Kind := 0, Match := ({ Value := [0, 0, 0, 0, 0, 0, 0, 0, 0, 0, 0, 0], Care := [0, 0, 0, 0, 0, 0, 0, 0, 0, 0, 0, 0] } : Cube), Prio := 0, Acts := [], Idle := 0, Hard := 0, Owner := 0, Check := false } : Mod))) && (m1.Port == 0)) && (m1.Head == [0, 0, 0, 0, 0, 0, 0, 0, 0, 0, 0, 0])) && ((((List.map Rule.av m1.Rules).length : Nat) : Int) == 0))
theorem z128_calls (m1 : Msg) : ACalls Tryz.prog tab.S 128 [Msg.av m1] [] (.sc (.bool (z128 m1))) [] := by
 generalize H : z128 m1 = r
 refine .of_AX z128_F Tryz.func128 fun c0 hc0 => ?_
 rw [z128] at H
 refine .sg 3 [1] (.rg (.sg 4 [1,6] (.mm 6 (m1.E == 0) 5 [.pure, .pure, .pure, .read, .pure] [1, 11] 11 (fun z => .sc (.bool (z && (z151 m1.Mod ({ Kind := 0, Match := ({ Value := [0, 0, 0, 0, 0, 0, 0, 0, 0, 0, 0, 0], Care := [0, 0, 0, 0, 0, 0, 0, 0, 0, 0, 0, 0] } : Cube), Prio := 0, Acts := [], Idle := 0, Hard := 0, Owner := 0, Check := false } : Mod))))) ?J1 (fun hb J => ?ht1) (fun hb J => ?hf1))))
 case ht1 =>
  exact .sg 3 [1,6,8,9] (.cp [1,6,10] (ds := [(0, true), (60, false)]) (z151_calls m1.Mod ({ Kind := 0, Match := ({ Value := [0, 0, 0, 0, 0, 0, 0, 0, 0, 0, 0, 0], Care := [0, 0, 0, 0, 0, 0, 0, 0, 0, 0, 0, 0] } : Cube), Prio := 0, Acts := [], Idle := 0, Hard := 0, Owner := 0, Check := false } : Mod)) (.sg 1 [1,11] (.cl J)))
 case hf1 =>
  exact .sg 5 [1,11] (.cl J)
 refine .sg 1 [1,12] (.mx 0 [1,16] (.sg 1 [1,17] (.mm 17 (((m1.E == 0) && (z151 m1.Mod ({ Kind := 0, Match := ({ Value := [0, 0, 0, 0, 0, 0, 0, 0, 0, 0, 0, 0], Care := [0, 0, 0, 0, 0, 0, 0, 0, 0, 0, 0, 0] } : Cube), Prio := 0, Acts := [], Idle := 0, Hard := 0, Owner := 0, Check := false } : Mod))) && (m1.Port == 0)) 5 [.pure, .pure, .pure, .read, .pure] [1, 22] 22 (fun z => .sc (.bool (z && (m1.Head == [0, 0, 0, 0, 0, 0, 0, 0, 0, 0, 0, 0])))) ?J3 (fun hb J => ?ht3) (fun hb J => ?hf3))))
 case ht3 =>
  exact .sg 3 [1,17,19,20] (.eq_ [1,17,21] 9 (.sg 1 [1,22] (.cl J)))
 case hf3 =>
  exact .sg 5 [1,22] (.cl J)
 refine .sg 1 [1,23] (.mx 0 [28] (.sg 1 [2] (.dn ?_)))
 subst H
 exact .ret Tryz.func128 hc0
noncomputable def z195_F : Go.Sh.Fn := ⟨195, bodyOf Tryz.f195, 6⟩
def z195 (x : Int) : Bool :=
 (x != x)
theorem z195_calls (x : Int) : ACalls Tryz.prog tab.S 195 [.sc (.int .u64 x)] [] (.sc (.bool (z195 x))) [] := by
 generalize H : z195 x = r
 refine .of_AX z195_F Tryz.func195 fun c0 hc0 => ?_
 rw [z195] at H
 refine .sg 4 [2] ?_
 subst H
 exact .ret Tryz.func195 hc0
noncomputable def z193_F : Go.Sh.Fn := ⟨193, bodyOf Tryz.f193, 20⟩
def z193 (x : Int) (y : Int) : Int :=
 (bif (z195 x) then
  (bif (z195 y) then
   0
  else
   (-1))
 else
  (bif (z195 y) then
   1
  else
   (bif (decide (x < y)) then
    (-1)
   else
    (bif (decide (x > y)) then
     1
    else
     0))))
theorem z193_calls (x : Int) (y : Int) : ACalls Tryz.prog tab.S 193 [.sc (.int .u64 x), .sc (.int .u64 y)] [] (.sc (.int .i64 (z193 x y))) [] := by
 generalize H : z193 x y = r
 refine .of_AX z193_F Tryz.func193 fun c0 hc0 => ?_
 rw [z193] at H
 refine .sg 3 [0,1] (.rg (.sg 1 [0,1,7] (.cp [0,1,8] (z195_calls x) (.sg 1 [0,1,5] (.dn (.sg 1 [0,1,5] (.rg (.sg 1 [0,1,5,9] (.cp [0,1,5,10] (z195_calls y) (.sg 1 [0,1,5,6] (.dn (.sg 3 [0,1,6,11] (.cd (z195 x) H (fun hb H => ?_) (fun hb H => ?_))))))))))))))
 ·
  refine .sg 3 [12] (.cd (z195 y) H (fun hb H => ?_) (fun hb H => ?_))
  ·
   refine .sg 2 [4] ?_
   subst H
   exact .ret Tryz.func193 hc0
  ·
   refine .sg 3 [4] ?_
   subst H
   exact .ret Tryz.func193 hc0
 ·
  refine .sg 4 [0,1,13] (.cd (z195 y) H (fun hb H => ?_) (fun hb H => ?_))
  ·
   refine .sg 2 [4] ?_
   subst H
   exact .ret Tryz.func193 hc0
  ·
   refine .sg 4 [0,1,16] (.cd (decide (x < y)) H (fun hb H => ?_) (fun hb H => ?_))
   ·
    refine .sg 2 [4] ?_
    subst H
    exact .ret Tryz.func193 hc0
   ·
    refine .sg 4 [19] (.cd (decide (x > y)) H (fun hb H => ?_) (fun hb H => ?_))
    ·
     refine .sg 2 [4] ?_
     subst H
     exact .ret Tryz.func193 hc0
    ·
     refine .sg 3 [4] ?_
     subst H
     exact .ret Tryz.func193 hc0
noncomputable def z192_F : Go.Sh.Fn := ⟨192, bodyOf Tryz.f192, 39⟩
def z192_l0s (s2 : List Int) (cmp : Int → Int → Int) : List Int → Nat → Option (Sum (Unit) (Int))
 | [], t13 =>
  some (.inl ())
 | x :: rest, t13 =>
  (bif (decide (((t13 : Nat) : Int) ≥ (((List.map (intA .u64) s2).length : Nat) : Int))) then
   some (.inr 1)
  else
   (ixO s2 ((t13 : Nat) : Int)).bind fun x1 =>
   (bif ((cmp x x1) != 0) then
    some (.inr (cmp x x1))
   else
    z192_l0s s2 cmp rest (t13 + 1) ))
theorem z192_l0_walk (s1 : List Int) (s2 : List Int) (F_cmp : FuncId) (C_cmp : List AV) (cmp : Int → Int → Int) (P_cmp : plainL C_cmp = true) (O_cmp : C_cmp.all oneA = true) (H_cmp : ∀ (y0 : Int) (y1 : Int), ACalls Tryz.prog tab.S F_cmp ([.sc (.int .u64 y0), .sc (.int .u64 y1)] ++ C_cmp) [] (.sc (.int .i64 (cmp y0 y1))) []) (f_s1 : Bool) (f_s2 : Bool) (r : Int) (c0 : Ctx) (hc0 : c0.m.length = 0) (res : Sum (Unit) (Int)) (J : ∀ w : Unit, res = .inl w → AX Tryz.prog tab z192_F c0 (Rp tab.S c0 (.sc (.int .i64 r)) []) (some ⟨[.code [1, 1]], [(0, .sl 35 (List.map (intA .u64) s1) f_s1), (1, .sl 35 (List.map (intA .u64) s2) f_s2)], []⟩)) (Jr : ∀ w, res = .inr w → w = r) :
  ∀ (rest : List Int) (t13 : Nat) (z : Int) (hI : z = ((t13 : Nat) : Int)) (hd : s1.drop t13 = rest) (H : z192_l0s s2 cmp rest t13 = some res), AX Tryz.prog tab z192_F c0 (Rp tab.S c0 (.sc (.int .i64 r)) []) (some ⟨[.code [1, 0, 1, 0, 0], .loop [1, 0, 1, 0], .blk 0, .code [1, 1]], [(0, .sl 35 (List.map (intA .u64) s1) f_s1), (1, .sl 35 (List.map (intA .u64) s2) f_s2), (2, .fn F_cmp C_cmp), (11, .sl 35 (List.map (intA .u64) s1) f_s1), (12, .sc (.int .i64 (((List.map (intA .u64) s1).length : Nat) : Int))), (13, .sc (.int .i64 z))], []⟩) := by
 intro rest
 induction rest with
 | nil =>
  intro t13 z hI hd  H
  subst hI
  rw [z192_l0s] at H
  refine .facts 0 fun hf => ?_
  have hlen : s1.length ≤ 9223372036854775807 := by have hq := len_ok hf.2.1; rw [List.length_map] at hq; exact hq
  have hge : s1.length ≤ t13 := List.drop_eq_nil_iff.1 hd
  have hc : (decide (((t13 : Nat) : Int) < (((List.map (intA .u64) s1).length : Nat) : Int))) = false := by rw [List.length_map]; exact decide_eq_false (by omega)
  exact .sg 3 [0,1,2,11,12,13,14] (.cdF hc (.sg 1 [0,1] (.kp [0,1] (.to (J () (Option.some.inj H).symm)))))
 | cons x rest ih =>
  intro t13 z hI hd  H
  subst hI
  rw [z192_l0s] at H
  refine .facts 0 fun hf => ?_
  have hlen : s1.length ≤ 9223372036854775807 := by have hq := len_ok hf.2.1; rw [List.length_map] at hq; exact hq
  obtain ⟨hlt, hv_t13, hd2⟩ := drop_cons hd
  have hc : (decide (((t13 : Nat) : Int) < (((List.map (intA .u64) s1).length : Nat) : Int))) = true := by rw [List.length_map]; exact decide_eq_true (by omega)
  have hw : IntKind.i64.wrap (((t13 : Nat) : Int) + 1) = ((t13 + 1 : Nat) : Int) := wrapI_succ (by omega)
  refine .sg 3 [0,1,2,11,12,13,14] (.cdT hc (.sg 4 [0,1,2,11,12,13] (.rg (.sg 1 [0,1,2,11,12,13,15] (.xi [0,1,2,11,12,13,15,16] (intA .u64) hv_t13 (.sg 3 [0,1,2,7,8,11,12,13] (.dn (.sg 3 [0,1,2,7,8,11,12,13,21] (.cd (decide (((t13 : Nat) : Int) ≥ (((List.map (intA .u64) s2).length : Nat) : Int))) H (fun hb H => ?_) (fun hb H => ?_))))))))))
  ·
   refine .sg 2 [6] ?_
   obtain rfl := Option.some.inj H
   obtain rfl := Jr _ rfl
   exact .ret Tryz.func192 hc0
  ·
   refine .sg 2 [0,1,2,7,8,11,12,13] (.rg (.sg 2 [0,1,2,8,11,12,13,22,23] (bndO H fun x1 hv H => (.xi [0,1,2,8,11,12,13,24] (intA .u64) hv (.sg 2 [0,1,2,8,9,11,12,13] (.dn (.sg 1 [0,1,2,8,9,11,12,13] (.rg (.sg 3 [0,1,2,11,12,13,26,27,28] (.cf [0,1,2,11,12,13,29] (H_cmp x x1) P_cmp O_cmp (.sg 1 [0,1,2,10,11,12,13] (.dn (.sg 2 [0,1,2,10,11,12,13,31] (.cd ((cmp x x1) != 0) H (fun hb H => ?_) (fun hb H => ?_)))))))))))))))
   ·
    refine .sg 2 [6] ?_
    obtain rfl := Option.some.inj H
    obtain rfl := Jr _ rfl
    exact .ret Tryz.func192 hc0
   ·
    exact .sg 3 [0,1,2,11,12,13] (.kp [0,1,2,11,12,13] (.into (.cl (ih (t13 + 1) _ hw hd2 H))))
def z192_raw (s1 : List Int) (s2 : List Int) (cmp : Int → Int → Int) : Option (Int) :=
 loopO (z192_l0s s2 cmp s1 0) fun v =>
 (bif (decide ((((List.map (intA .u64) s1).length : Nat) : Int) < (((List.map (intA .u64) s2).length : Nat) : Int))) then
  some (-1)
 else
  some 0)
theorem z192_walk (s1 : List Int) (s2 : List Int) (F_cmp : FuncId) (C_cmp : List AV) (cmp : Int → Int → Int) (P_cmp : plainL C_cmp = true) (O_cmp : C_cmp.all oneA = true) (H_cmp : ∀ (y0 : Int) (y1 : Int), ACalls Tryz.prog tab.S F_cmp ([.sc (.int .u64 y0), .sc (.int .u64 y1)] ++ C_cmp) [] (.sc (.int .i64 (cmp y0 y1))) []) (f_s1 : Bool) (f_s2 : Bool) (r : Int) (H : z192_raw s1 s2 cmp = some r) : ACalls Tryz.prog tab.S 192 [.sl 35 (List.map (intA .u64) s1) f_s1, .sl 35 (List.map (intA .u64) s2) f_s2, .fn F_cmp C_cmp] [] (.sc (.int .i64 r)) [] := by
 refine .of_AX z192_F Tryz.func192 fun c0 hc0 => ?_
 rw [z192_raw] at H
 refine .sg 6 [0,1,2,11,12,13] ?_
 rcases loopO_some H with ⟨v, hv, H⟩ | hv
 case inr =>
  exact .into (.to (z192_l0_walk s1 s2 F_cmp C_cmp cmp P_cmp O_cmp H_cmp f_s1 f_s2 _ c0 hc0 (.inr _) (fun _ e => by cases e) (fun _ e => (Sum.inr.inj e).symm) s1 0 _ rfl rfl hv))
 refine .into (.to (z192_l0_walk s1 s2 F_cmp C_cmp cmp P_cmp O_cmp H_cmp f_s1 f_s2 r c0 hc0 (.inl v) (fun w e => ?_) (fun _ e => by cases e) s1 0 _ rfl rfl hv))
 have e := Sum.inl.inj e
 subst e
 refine .sg 3 [38] (.cd (decide ((((List.map (intA .u64) s1).length : Nat) : Int) < (((List.map (intA .u64) s2).length : Nat) : Int))) H (fun hb H => ?_) (fun hb H => ?_))
 ·
  refine .sg 2 [6] ?_
  obtain rfl := Option.some.inj H
  exact .ret Tryz.func192 hc0
 ·
  refine .sg 3 [6] ?_
  obtain rfl := Option.some.inj H
  exact .ret Tryz.func192 hc0
def cmpL {α : Type} (cmp : α → α → Int) : List α → List α → Int
 | [], [] => 0
 | [], _ :: _ => -1
 | _ :: _, [] => 1
 | x :: l, y :: r => bif cmp x y != 0 then cmp x y else cmpL cmp l r
def cmpS {α : Type} (cmp : α → α → Int) : List α → List α → Sum Unit Int
 | [], _ => .inl ()
 | _ :: _, [] => .inr 1
 | x :: l, y :: r => bif cmp x y != 0 then .inr (cmp x y) else cmpS cmp l r
theorem cmpS_L {α : Type} (cmp : α → α → Int) : ∀ (l r : List α), (match cmpS cmp l r with | .inl _ => if l.length < r.length then -1 else 0 | .inr v => v) = cmpL cmp l r
 | [], [] => rfl
 | [], _ :: _ => by simp [cmpS, cmpL]
 | _ :: _, [] => rfl
 | x :: l, y :: r => by
   rw [cmpS, cmpL, ← cmpS_L cmp l r]
   cases cmp x y != 0
   ·simp only [cond_false, List.length_cons, Nat.add_lt_add_iff_right]
   ·rfl
theorem z192_l0s_eq (s2 : List Int) (cmp : Int → Int → Int) : ∀ (l : List Int) (i : Nat), z192_l0s s2 cmp l i = some (cmpS cmp l (s2.drop i))
 | [], i => by rw [z192_l0s]; rfl
 | x :: l, i => by
   rw [z192_l0s, List.length_map]
   by_cases h : i < s2.length
   ·have hc : decide (((i : Nat) : Int) ≥ ((s2.length : Nat) : Int)) = false := decide_eq_false (by omega)
    rw [hc, cond_false, ixO_lt h, Option.bind_some, List.drop_eq_getElem_cons h, cmpS, z192_l0s_eq s2 cmp l (i + 1)]
    cases cmp x s2[i] != 0 <;> rfl
   ·have hc : decide (((i : Nat) : Int) ≥ ((s2.length : Nat) : Int)) = true := decide_eq_true (by omega)
    rw [hc, cond_true, List.drop_eq_nil_of_le (by omega)]
    rfl
theorem z192_eq (s1 s2 : List Int) (cmp : Int → Int → Int) : z192_raw s1 s2 cmp = some (cmpL cmp s1 s2) := by
 rw [z192_raw, z192_l0s_eq, List.drop_zero, ← cmpS_L]
 cases cmpS cmp s1 s2 with
 | inr v => rfl
 | inl u =>
  show (bif _ then _ else _) = _
  rw [List.length_map, List.length_map]
  by_cases h : s1.length < s2.length
  ·rw [decide_eq_true (by omega), if_pos h]; rfl
  ·rw [decide_eq_false (by omega), if_neg h]; rfl
theorem z192_ok (s1 s2 : List Int) (F_cmp : FuncId) (C_cmp : List AV) (cmp : Int → Int → Int) (P_cmp : plainL C_cmp = true) (O_cmp : C_cmp.all oneA = true) (H_cmp : ∀ (y0 : Int) (y1 : Int), ACalls Tryz.prog tab.S F_cmp ([.sc (.int .u64 y0), .sc (.int .u64 y1)] ++ C_cmp) [] (.sc (.int .i64 (cmp y0 y1))) []) (f_s1 f_s2 : Bool) :
  ACalls Tryz.prog tab.S 192 [.sl 35 (List.map (intA .u64) s1) f_s1, .sl 35 (List.map (intA .u64) s2) f_s2, .fn F_cmp C_cmp] [] (.sc (.int .i64 (cmpL cmp s1 s2))) [] :=
 z192_walk s1 s2 F_cmp C_cmp cmp P_cmp O_cmp H_cmp f_s1 f_s2 _ (z192_eq s1 s2 cmp)
noncomputable def z190_F : Go.Sh.Fn := ⟨190, bodyOf Tryz.f190, 8⟩
def z190 (a : List Int) (b : List Int) : Int :=
 (cmpL z193 a b)
theorem z190_calls (a : List Int) (b : List Int) : ACalls Tryz.prog tab.S 190 [.arr .u64 12 a, .arr .u64 12 b] [] (.sc (.int .i64 (z190 a b))) [] := by
 generalize H : z190 a b = r
 refine .of_AX z190_F Tryz.func190 fun c0 hc0 => ?_
 rw [z190] at H
 refine .sg 1 [0,1] (.rg (.bx [1,2] (.bx [2,3] (.sg 1 [2,3] (.dn (.sg 1 [2,3] (.rg (.se [3,5] (.se [5,6] (.cl_ [7] (caps := []) (z192_ok a b 193 [] z193 rfl rfl (fun y0 y1 => z193_calls y0 y1) true true) (.same rfl (.same rfl (.fn (caps := []) (by kernel_rfl) .nil))) (by kernel_rfl) rfl rfl (.sg 1 [4] (.dn ?_))))))))))))
 subst H
 exact .ret Tryz.func190 hc0
noncomputable def z189_F : Go.Sh.Fn := ⟨189, bodyOf Tryz.f189, 18⟩
def z189_l0s : List Int → Sum (Unit) (Int)
 | [] =>
  (.inl ())
 | x :: rest =>
  (bif (x != 0) then
   (.inr x)
  else
   z189_l0s rest )
theorem z189_l0_walk (vals : List Int) (f_vals : Bool) (r : Int) (c0 : Ctx) (hc0 : c0.m.length = 0) (res : Sum (Unit) (Int)) (J : ∀ w : Unit, res = .inl w → AX Tryz.prog tab z189_F c0 (Rp tab.S c0 (.sc (.int .i64 r)) []) (some ⟨[.code [1, 1, 1]], [(3, .sc (.int .i64 0))], []⟩)) (Jr : ∀ w, res = .inr w → w = r) :
  ∀ (rest : List Int) (t8 : Nat) (z : Int) (hI : z = ((t8 : Nat) : Int)) (hd : vals.drop t8 = rest) (H : z189_l0s rest = res), AX Tryz.prog tab z189_F c0 (Rp tab.S c0 (.sc (.int .i64 r)) []) (some ⟨[.code [1, 1, 0, 1, 0, 0], .loop [1, 1, 0, 1, 0], .blk 0, .code [1, 1, 1]], [(3, .sc (.int .i64 0)), (6, .sl 3 (List.map (intA .i64) vals) f_vals), (7, .sc (.int .i64 (((List.map (intA .i64) vals).length : Nat) : Int))), (8, .sc (.int .i64 z))], []⟩) := by
 intro rest
 induction rest with
 | nil =>
  intro t8 z hI hd  H
  subst hI
  rw [z189_l0s] at H
  refine .facts 6 fun hf => ?_
  have hlen : vals.length ≤ 9223372036854775807 := by have hq := len_ok hf.2.1; rw [List.length_map] at hq; exact hq
  have hge : vals.length ≤ t8 := List.drop_eq_nil_iff.1 hd
  have hc : (decide (((t8 : Nat) : Int) < (((List.map (intA .i64) vals).length : Nat) : Int))) = false := by rw [List.length_map]; exact decide_eq_false (by omega)
  exact .sg 3 [3,6,7,8,9] (.cdF hc (.sg 1 [3] (.kp [3] (.to (J () H.symm)))))
 | cons x rest ih =>
  intro t8 z hI hd  H
  subst hI
  rw [z189_l0s] at H
  refine .facts 6 fun hf => ?_
  have hlen : vals.length ≤ 9223372036854775807 := by have hq := len_ok hf.2.1; rw [List.length_map] at hq; exact hq
  obtain ⟨hlt, hv_t8, hd2⟩ := drop_cons hd
  have hc : (decide (((t8 : Nat) : Int) < (((List.map (intA .i64) vals).length : Nat) : Int))) = true := by rw [List.length_map]; exact decide_eq_true (by omega)
  have hw : IntKind.i64.wrap (((t8 : Nat) : Int) + 1) = ((t8 + 1 : Nat) : Int) := wrapI_succ (by omega)
  refine .sg 3 [3,6,7,8,9] (.cdT hc (.sg 4 [3,6,7,8] (.rg (.xi [3,6,7,8,10] (intA .i64) hv_t8 (.sg 2 [3,5,6,7,8] (.dn (.sg 2 [3,5,6,7,8,14] (.cd (x != 0) H (fun hb H => ?_) (fun hb H => ?_)))))))))
  ·
   refine .sg 2 [2] ?_
   subst H
   obtain rfl := Jr _ rfl
   exact .ret Tryz.func189 hc0
  ·
   exact .sg 3 [3,6,7,8] (.kp [3,6,7,8] (.into (.cl (ih (t8 + 1) _ hw hd2 H))))
def z189 (vals : List Int) : Int :=
 sumG (fun q => q) (z189_l0s vals) fun v =>
 0
theorem z189_calls (vals : List Int) (f_vals : Bool) : ACalls Tryz.prog tab.S 189 [.sl 3 (List.map (intA .i64) vals) f_vals] [] (.sc (.int .i64 (z189 vals))) [] := by
 generalize H : z189 vals = r
 refine .of_AX z189_F Tryz.func189 fun c0 hc0 => ?_
 rw [z189] at H
 refine .sg 8 [3,6,7,8] ?_
 rcases sumG_eq H with ⟨v, hv, H⟩ | ⟨r1, hv, hr1⟩
 case inr =>
  refine .into ?_
  replace hr1 : r1 = r := hr1
  subst hr1
  exact .to (z189_l0_walk vals f_vals _ c0 hc0 (.inr _) (fun _ e => by cases e) (fun _ e => (Sum.inr.inj e).symm) vals 0 _ rfl rfl hv)
 refine .into (.to (z189_l0_walk vals f_vals r c0 hc0 (.inl v) (fun w e => ?_) (fun _ e => by cases e) vals 0 _ rfl rfl hv))
 have e := Sum.inl.inj e
 subst e
 refine .sg 2 [2] ?_
 subst H
 exact .ret Tryz.func189 hc0
noncomputable def z185_F : Go.Sh.Fn := ⟨185, bodyOf Tryz.f185, 17⟩
def z185 (a : Cube) (b : Cube) : Int :=
 (z189 [(z190 a.Care b.Care), (z190 a.Value b.Value)])
theorem z185_calls (a : Cube) (b : Cube) : ACalls Tryz.prog tab.S 185 [Cube.av a, Cube.av b] [] (.sc (.int .i64 (z185 a b))) [] := by
 generalize H : z185 a b = r
 refine .of_AX z185_F Tryz.func185 fun c0 hc0 => ?_
 rw [z185] at H
 refine .sg 3 [2,3] (.rg (.sg 4 [2,3,6,8] (.cp [2,3,9] (z190_calls a.Care b.Care) (.sg 4 [9,11,13] (.cp [9,14] (z190_calls a.Value b.Value) (.sg 1 [15] (.cp [16] (z189_calls [(z190 a.Care b.Care), (z190 a.Value b.Value)] true) (.sg 1 [4] (.dn ?_)))))))))
 subst H
 exact .ret Tryz.func185 hc0
noncomputable def z177_F : Go.Sh.Fn := ⟨177, bodyOf Tryz.f177, 20⟩
def z177 (a : Rule) (b : Rule) : Int :=
 (bif (a.Prio != b.Prio) then
  (bif (decide (a.Prio > b.Prio)) then
   (-1)
  else
   1)
 else
  (z185 a.Match b.Match))
theorem z177_calls (a : Rule) (b : Rule) : ACalls Tryz.prog tab.S 177 [Rule.av a, Rule.av b] [] (.sc (.int .i64 (z177 a b))) [] := by
 generalize H : z177 a b = r
 refine .of_AX z177_F Tryz.func177 fun c0 hc0 => ?_
 rw [z177] at H
 refine .sg 5 [2,3,9] (.cd (a.Prio != b.Prio) H (fun hb H => ?_) (fun hb H => ?_))
 ·
  refine .sg 3 [14] (.cd (decide (a.Prio > b.Prio)) H (fun hb H => ?_) (fun hb H => ?_))
  ·
   refine .sg 2 [4] ?_
   subst H
   exact .ret Tryz.func177 hc0
  ·
   refine .sg 3 [4] ?_
   subst H
   exact .ret Tryz.func177 hc0
 ·
  refine .sg 2 [2,3] (.rg (.sg 4 [16,18] (.cp [19] (z185_calls a.Match b.Match) (.sg 1 [4] (.dn ?_)))))
  subst H
  exact .ret Tryz.func177 hc0
noncomputable def z156_F : Go.Sh.Fn := ⟨156, bodyOf Tryz.f156, 9⟩
def z156 (a : Rule) (b : Rule) : Bool :=
 (decide ((z177 a b) < 0))
theorem z156_calls (a : Rule) (b : Rule) : ACalls Tryz.prog tab.S 156 [Rule.av a, Rule.av b] [] (.sc (.bool (z156 a b))) [] := by
 generalize H : z156 a b = r
 refine .of_AX z156_F Tryz.func156 fun c0 hc0 => ?_
 rw [z156] at H
 refine .sg 3 [2,3] (.rg (.sg 2 [5,6] (.cp [7] (z177_calls a b) (.sg 2 [4] (.dn ?_)))))
 subst H
 exact .ret Tryz.func156 hc0
noncomputable def z130_F : Go.Sh.Fn := ⟨130, bodyOf Tryz.f130, 30⟩
def z130_l0s (list : List Rule) : List Rule → Nat → Option (Sum (Unit) (Bool))
 | [], t7 =>
  some (.inl ())
 | x :: rest, t7 =>
  (bif (!(z155 x)) then
   some (.inr false)
  else
   (bif (decide (((t7 : Nat) : Int) > 0)) then
    (ixO list (IntKind.i64.wrap (((t7 : Nat) : Int) - 1))).bind fun x1 =>
    (bif (!(z156 x1 x)) then
     some (.inr false)
    else
     z130_l0s list rest (t7 + 1) )
   else
    z130_l0s list rest (t7 + 1) ))
theorem z130_l0_walk (list : List Rule) (f_list : Bool) (r : Bool) (c0 : Ctx) (hc0 : c0.m.length = 0) (res : Sum (Unit) (Bool)) (J : ∀ w : Unit, res = .inl w → AX Tryz.prog tab z130_F c0 (Rp tab.S c0 (.sc (.bool r)) []) (some ⟨[.code [1, 1]], [], []⟩)) (Jr : ∀ w, res = .inr w → w = r) :
  ∀ (rest : List Rule) (t7 : Nat) (z : Int) (hI : z = ((t7 : Nat) : Int)) (hd : list.drop t7 = rest) (H : z130_l0s list rest t7 = some res), AX Tryz.prog tab z130_F c0 (Rp tab.S c0 (.sc (.bool r)) []) (some ⟨[.code [1, 0, 1, 0, 0], .loop [1, 0, 1, 0], .blk 0, .code [1, 1]], [(0, .sl 70 (List.map Rule.av list) f_list), (5, .sl 70 (List.map Rule.av list) f_list), (6, .sc (.int .i64 (((List.map Rule.av list).length : Nat) : Int))), (7, .sc (.int .i64 z))], []⟩) := by
 intro rest
 induction rest with
 | nil =>
  intro t7 z hI hd  H
  subst hI
  rw [z130_l0s] at H
  refine .facts 0 fun hf => ?_
  have hlen : list.length ≤ 9223372036854775807 := by have hq := len_ok hf.2.1; rw [List.length_map] at hq; exact hq
  have hge : list.length ≤ t7 := List.drop_eq_nil_iff.1 hd
  have hc : (decide (((t7 : Nat) : Int) < (((List.map Rule.av list).length : Nat) : Int))) = false := by rw [List.length_map]; exact decide_eq_false (by omega)
  exact .sg 3 [0,5,6,7,8] (.cdF hc (.sg 1 [] (.kp [] (.to (J () (Option.some.inj H).symm)))))
 | cons x rest ih =>
  intro t7 z hI hd  H
  subst hI
  rw [z130_l0s] at H
  refine .facts 0 fun hf => ?_
  have hlen : list.length ≤ 9223372036854775807 := by have hq := len_ok hf.2.1; rw [List.length_map] at hq; exact hq
  obtain ⟨hlt, hv_t7, hd2⟩ := drop_cons hd
  have hc : (decide (((t7 : Nat) : Int) < (((List.map Rule.av list).length : Nat) : Int))) = true := by rw [List.length_map]; exact decide_eq_true (by omega)
  have hw : IntKind.i64.wrap (((t7 : Nat) : Int) + 1) = ((t7 + 1 : Nat) : Int) := wrapI_succ (by omega)
  refine .sg 3 [0,5,6,7,8] (.cdT hc (.sg 4 [0,5,6,7] (.rg (.sg 1 [0,5,6,7,9] (.xi [0,5,6,7,9,10] Rule.av hv_t7 (.sg 4 [0,3,4,5,6,7] (.dn (.sg 1 [0,3,4,5,6,7] (.rg (.sg 1 [0,3,4,5,6,7,12] (.cp [0,3,4,5,6,7,13] (z155_calls x) (.sg 2 [0,3,4,5,6,7,15] (.sp 15 (!(z155 x)) H (fun hb H => ?_) (fun hb H => ?_))))))))))))))
  ·
   refine .sg 13 [0,5,6,7,28] (.dn (.sg 3 [2] ?_))
   obtain rfl := Option.some.inj H
   obtain rfl := Jr _ rfl
   exact .ret Tryz.func130 hc0
  ·
   refine .sg 3 [0,3,4,5,6,7,15,18] (.sp 18 (decide (((t7 : Nat) : Int) > 0)) H (fun hb H => ?_) (fun hb H => ?_))
   ·
    refine .sg 3 [0,4,5,6,7,15,18,19,21] (bndO H fun x1 hv H => (.xi [0,4,5,6,7,15,18,22] Rule.av hv (.sg 2 [0,5,6,7,15,18,23,24] (.cp [0,5,6,7,15,18,25] (z156_calls x1 x) (.sg 3 [0,5,6,7,28] (.dn (.cd (!(z156 x1 x)) H (fun hb H => ?_) (fun hb H => ?_))))))))
    ·
     refine .sg 2 [2] ?_
     obtain rfl := Option.some.inj H
     obtain rfl := Jr _ rfl
     exact .ret Tryz.func130 hc0
    ·
     exact .sg 3 [0,5,6,7] (.tl hc0 [] [0,5,6,7] (.into (.cl (ih (t7 + 1) _ hw hd2 H))))
   ·
    exact .sg 10 [0,5,6,7,28] (.dn (.sg 4 [0,5,6,7] (.tl hc0 [] [0,5,6,7] (.into (.cl (ih (t7 + 1) _ hw hd2 H))))))
def z130_raw (list : List Rule) : Option (Bool) :=
 loopO (z130_l0s list list 0) fun v =>
 some true
theorem z130_walk (list : List Rule) (f_list : Bool) (r : Bool) (H : z130_raw list = some r) : ACalls Tryz.prog tab.S 130 [.sl 70 (List.map Rule.av list) f_list] [] (.sc (.bool r)) [] := by
 refine .of_AX z130_F Tryz.func130 fun c0 hc0 => ?_
 rw [z130_raw] at H
 refine .sg 6 [0,5,6,7] ?_
 rcases loopO_some H with ⟨v, hv, H⟩ | hv
 case inr =>
  exact .into (.to (z130_l0_walk list f_list _ c0 hc0 (.inr _) (fun _ e => by cases e) (fun _ e => (Sum.inr.inj e).symm) list 0 _ rfl rfl hv))
 refine .into (.to (z130_l0_walk list f_list r c0 hc0 (.inl v) (fun w e => ?_) (fun _ e => by cases e) list 0 _ rfl rfl hv))
 have e := Sum.inl.inj e
 subst e
 refine .sg 2 [2] ?_
 obtain rfl := Option.some.inj H
 exact .ret Tryz.func130 hc0
def tableF : Option Rule → List Rule → Bool
 | _, [] => true
 | p, x :: l => z155 x && (match p with | some y => z156 y x | none => true) && tableF (some x) l
def befO (p : Option Rule) (x : Rule) : Bool := match p with | some y => z156 y x | none => true
theorem tableF_cons (p : Option Rule) (x : Rule) (l : List Rule) : tableF p (x :: l) = (z155 x && befO p x && tableF (some x) l) := by cases p <;> rfl
def tableR (l : List Rule) : Bool := tableF none l
theorem z130_l0s_eq (all : List Rule) (hall : all.length ≤ 1000000000000000) : ∀ (l : List Rule) (i : Nat), all.drop i = l → z130_l0s all l i = some (if tableF (if i = 0 then none else all[i - 1]?) l then .inl () else .inr false)
 | [], i, _ => by rw [z130_l0s, tableF]; rfl
 | x :: l, i, h => by
   have hlt : i < all.length := by
    rcases Nat.lt_or_ge i all.length with q | q
    ·exact q
    ·rw [List.drop_eq_nil_of_le q] at h; cases h
   rw [List.drop_eq_getElem_cons hlt] at h
   injection h with h1 h2
   have ih : z130_l0s all l (i + 1) = some (if tableF (some x) l then .inl () else .inr false) := by
    have q := z130_l0s_eq all hall l (i + 1) h2
    have e : (if i + 1 = 0 then (none : Option Rule) else all[i + 1 - 1]?) = some x := by rw [if_neg (by omega), Nat.add_sub_cancel, List.getElem?_eq_getElem hlt, h1]
    rw [e] at q
    exact q
   rw [z130_l0s, tableF_cons]
   cases hs : z155 x
   ·rfl
   ·simp only [Bool.not_true, cond_false, Bool.true_and]
    by_cases hi : i = 0
    ·subst hi
     rw [decide_eq_false (by omega), cond_false, ih, if_pos rfl]
     rfl
    ·rw [decide_eq_true (by omega), cond_true, if_neg hi, wrap_eq (by omega) (by omega)]
     have e : ((i : Nat) : Int) - 1 = ((i - 1 : Nat) : Int) := by omega
     rw [e, ixO_lt (show i - 1 < all.length by omega), Option.bind_some, List.getElem?_eq_getElem (by omega), ih]
     show (bif !(z156 all[i - 1] x) then _ else _) = some (if (z156 all[i - 1] x && _) = true then _ else _)
     cases z156 all[i - 1] x <;> rfl
theorem z130_ok (l : List Rule) (f : Bool) : ACalls Tryz.prog tab.S 130 [.sl 70 (List.map Rule.av l) f] [] (.sc (.bool (tableR l))) [] := by
 refine ACalls.facts (ent_of Tryz.func130 (by kernel_rfl) (by kernel_rfl)) fun hf => ?_
 have l0 : l.length * 272 ≤ 140737488355328 := by have h := hf.1.1; rw [List.length_map] at h; exact h
 refine z130_walk l f _ ?_
 rw [z130_raw, z130_l0s_eq l (by omega) l 0 rfl, if_pos rfl]
 unfold tableR
 cases tableF none l <;> rfl
noncomputable def z92_F : Go.Sh.Fn := ⟨92, bodyOf Tryz.f92, 89⟩
def z92 (m1 : Msg) : Bool :=
 (bif (m1.Kind == 1) then
  ((z128 ({ m1 with Mod := ({ Kind := 0, Match := ({ Value := [0, 0, 0, 0, 0, 0, 0, 0, 0, 0, 0, 0], Care := [0, 0, 0, 0, 0, 0, 0, 0, 0, 0, 0, 0] } : Cube), Prio := 0, Acts := [], Idle := 0, Hard := 0, Owner := 0, Check := false } : Mod) } : Msg)) && (z129 m1.Mod))
 else
  (bif (m1.Kind == 6) then
   (((z128 ({ m1 with E := 0 } : Msg)) && (decide (m1.E ≥ 1))) && (decide (m1.E ≤ 17)))
  else
   (bif (m1.Kind == 8) then
    ((((z128 ({ m1 with Port := 0, Head := [0, 0, 0, 0, 0, 0, 0, 0, 0, 0, 0, 0] } : Msg)) && (decide (m1.Port ≥ 1))) && (decide (m1.Port ≤ 16))) && (z47 m1.Head))
   else
    (bif (bif (m1.Kind == 9) then (m1.Kind == 9) else (m1.Kind == 10)) then
     (((z128 ({ m1 with Rules := [] } : Msg)) && (tableR m1.Rules)) && ((m1.Kind == 10) || ((((List.map Rule.av m1.Rules).length : Nat) : Int) == 1)))
    else
     (((z128 m1) && (decide (m1.Kind ≥ 1))) && (decide (m1.Kind ≤ 10)))))))
theorem z92_calls (m1 : Msg) : ACalls Tryz.prog tab.S 92 [Msg.av m1] [] (.sc (.bool (z92 m1))) [] := by
 generalize H : z92 m1 = r
 refine .of_AX z92_F Tryz.func92 fun c0 hc0 => ?_
 rw [z92] at H
 refine .sg 10 [1,3,6,7] (.cd (m1.Kind == 1) H (fun hb H => ?_) (fun hb H => ?_))
 ·
  refine .sg 3 [1,3] (.rg (.sg 1 [1,11] (.cp [1,12] (ds := [(60, false)]) (z128_calls ({ m1 with Mod := ({ Kind := 0, Match := ({ Value := [0, 0, 0, 0, 0, 0, 0, 0, 0, 0, 0, 0], Care := [0, 0, 0, 0, 0, 0, 0, 0, 0, 0, 0, 0] } : Cube), Prio := 0, Acts := [], Idle := 0, Hard := 0, Owner := 0, Check := false } : Mod) } : Msg)) (.sg 1 [1,13] (.mm 13 (z128 ({ m1 with Mod := ({ Kind := 0, Match := ({ Value := [0, 0, 0, 0, 0, 0, 0, 0, 0, 0, 0, 0], Care := [0, 0, 0, 0, 0, 0, 0, 0, 0, 0, 0, 0] } : Cube), Prio := 0, Acts := [], Idle := 0, Hard := 0, Owner := 0, Check := false } : Mod) } : Msg)) 4 [.pure, .pure, .read, .pure] [17] 17 (fun z => .sc (.bool (z && (z129 m1.Mod)))) ?J2 (fun hb J => ?ht2) (fun hb J => ?hf2))))))
  case ht2 =>
   exact .sg 2 [13,15] (.cp [13,16] (z129_calls m1.Mod) (.sg 1 [17] (.cl J)))
  case hf2 =>
   exact .sg 4 [17] (.cl J)
  refine .sg 1 [2] (.dn ?_)
  subst H
  exact .ret Tryz.func92 hc0
 ·
  refine .sg 2 [1,3,6,18] (.cd (m1.Kind == 6) H (fun hb H => ?_) (fun hb H => ?_))
  ·
   refine .sg 3 [1,3] (.rg (.sg 1 [1,21] (.cp [1,22] (z128_calls ({ m1 with E := 0 } : Msg)) (.sg 1 [1,23] (.mx 0 [1,27] (.sg 1 [1,28] (.mx 0 [32] (.sg 1 [2] (.dn ?_)))))))))
   subst H
   exact .ret Tryz.func92 hc0
  ·
   refine .sg 2 [1,3,6,33] (.cd (m1.Kind == 8) H (fun hb H => ?_) (fun hb H => ?_))
   ·
    refine .sg 3 [1,3] (.rg (.sg 1 [1,38] (.cp [1,39] (z128_calls ({ m1 with Port := 0, Head := [0, 0, 0, 0, 0, 0, 0, 0, 0, 0, 0, 0] } : Msg)) (.sg 1 [1,40] (.mx 0 [1,44] (.sg 1 [1,45] (.mx 0 [1,49] (.sg 1 [1,50] (.mm 50 (((z128 ({ m1 with Port := 0, Head := [0, 0, 0, 0, 0, 0, 0, 0, 0, 0, 0, 0] } : Msg)) && (decide (m1.Port ≥ 1))) && (decide (m1.Port ≤ 16))) 4 [.pure, .pure, .read, .pure] [54] 54 (fun z => .sc (.bool (z && (z47 m1.Head)))) ?J12 (fun hb J => ?ht12) (fun hb J => ?hf12))))))))))
    case ht12 =>
     exact .sg 2 [50,52] (.cp [50,53] (z47_calls m1.Head) (.sg 1 [54] (.cl J)))
    case hf12 =>
     exact .sg 4 [54] (.cl J)
    refine .sg 1 [2] (.dn ?_)
    subst H
    exact .ret Tryz.func92 hc0
   ·
    refine .sg 3 [1,3,6,55] (.jn (m1.Kind == 9) [1, 3, 55] (fun z => [(55, .sc (.bool (bif z then (m1.Kind == 9) else (m1.Kind == 10))))]) ?J13 (fun hb J => ?ht13) (fun hb J => ?hf13))
    case ht13 =>
     exact .sg 1 [1,3,55] (.cl J)
    case hf13 =>
     exact .sg 1 [1,3,55] (.cl J)
    refine .cd (bif (m1.Kind == 9) then (m1.Kind == 9) else (m1.Kind == 10)) H (fun hb H => ?_) (fun hb H => ?_)
    ·
     refine .sg 3 [1,3] (.rg (.sg 1 [1,59] (.cp [1,60] (ds := [(0, true), (70, false)]) (z128_calls ({ m1 with Rules := [] } : Msg)) (.sg 1 [1,61] (.mm 61 (z128 ({ m1 with Rules := [] } : Msg)) 4 [.pure, .pure, .read, .pure] [1, 65] 65 (fun z => .sc (.bool (z && (tableR m1.Rules)))) ?J18 (fun hb J => ?ht18) (fun hb J => ?hf18))))))
     case ht18 =>
      exact .sg 2 [1,61,63] (.cp [1,61,64] (z130_ok m1.Rules false) (.sg 1 [1,65] (.cl J)))
     case hf18 =>
      exact .sg 4 [1,65] (.cl J)
     refine .sg 1 [1,66] (.mm 66 ((z128 ({ m1 with Rules := [] } : Msg)) && (tableR m1.Rules)) 10 [.pure, .pure, .pure, .pure, .read, .pure, .pure, .pure, .read, .pure] [76] 76 (fun z => .sc (.bool (z && ((m1.Kind == 10) || ((((List.map Rule.av m1.Rules).length : Nat) : Int) == 1))))) ?J20 (fun hb J => ?ht20) (fun hb J => ?hf20))
     case ht20 =>
      exact .sg 4 [1,66,70] (.mx 1 [66,75] (.sg 1 [76] (.cl J)))
     case hf20 =>
      exact .sg 10 [76] (.cl J)
     refine .sg 1 [2] (.dn ?_)
     subst H
     exact .ret Tryz.func92 hc0
    ·
     refine .sg 3 [1] (.rg (.sg 1 [1,77] (.cp [1,78] (z128_calls m1) (.sg 1 [1,79] (.mx 0 [1,83] (.sg 1 [1,84] (.mx 0 [88] (.sg 1 [2] (.dn ?_)))))))))
     subst H
     exact .ret Tryz.func92 hc0
noncomputable def z66_F : Go.Sh.Fn := ⟨66, bodyOf Tryz.f66, 15⟩
def z66 (m1 : Msg) : Bool :=
 (((decide (m1.Txn ≥ 0)) && (decide (m1.Txn ≤ 4294967295))) && (z92 m1))
theorem z66_calls (m1 : Msg) : ACalls Tryz.prog tab.S 66 [Msg.av m1] [] (.sc (.bool (z66 m1))) [] := by
 generalize H : z66 m1 = r
 refine .of_AX z66_F Tryz.func66 fun c0 hc0 => ?_
 rw [z66] at H
 refine .sg 3 [1] (.rg (.sg 4 [1,6] (.mx 0 [1,10] (.sg 1 [1,11] (.mm 11 ((decide (m1.Txn ≥ 0)) && (decide (m1.Txn ≤ 4294967295))) 3 [.pure, .pure, .read] [14] 14 (fun z => .sc (.bool (z && (z92 m1)))) ?J2 (fun hb J => ?ht2) (fun hb J => ?hf2))))))
 case ht2 =>
  exact .sg 1 [11,12] (.cp [11,13] (z92_calls m1) (.sg 1 [14] (.cl J)))
 case hf2 =>
  exact .sg 3 [14] (.cl J)
 refine .sg 1 [2] (.dn ?_)
 subst H
 exact .ret Tryz.func66 hc0
end Go.Proofs.YtembchgiajidaaaGreat
namespace Go.Proofs.YtembchgiajidaaaGreat
open Go.Sh
noncomputable def z36_F : Go.Sh.Fn := ⟨36, bodyOf Tryz.f36, 68⟩
def z36_raw (b : List Int) : Option (Msg × Int) :=
 (z62_raw ({ b := b, end_ := false } : Reader) 1).bind fun v =>
 (z62_raw v.2 4).bind fun v1 =>
 (bif (v.1 == 1) then
  (z63_raw v1.2).bind fun v2 =>
  (bif v2.2.2.end_ then
   some (({ Kind := 0, Txn := 0, E := 0, Mod := ({ Kind := 0, Match := ({ Value := [0, 0, 0, 0, 0, 0, 0, 0, 0, 0, 0, 0], Care := [0, 0, 0, 0, 0, 0, 0, 0, 0, 0, 0, 0] } : Cube), Prio := 0, Acts := [], Idle := 0, Hard := 0, Owner := 0, Check := false } : Mod), Port := 0, Head := [0, 0, 0, 0, 0, 0, 0, 0, 0, 0, 0, 0], Rules := [] } : Msg), 8)
  else
   (bif (((!v2.2.1) || (decide ((((List.map (intA .u8) v2.2.2.b).length : Nat) : Int) > 0))) || (!(z66 ({ Kind := v.1, Txn := v1.1, E := 0, Mod := v2.1, Port := 0, Head := [0, 0, 0, 0, 0, 0, 0, 0, 0, 0, 0, 0], Rules := [] } : Msg)))) then
    some (({ Kind := 0, Txn := 0, E := 0, Mod := ({ Kind := 0, Match := ({ Value := [0, 0, 0, 0, 0, 0, 0, 0, 0, 0, 0, 0], Care := [0, 0, 0, 0, 0, 0, 0, 0, 0, 0, 0, 0] } : Cube), Prio := 0, Acts := [], Idle := 0, Hard := 0, Owner := 0, Check := false } : Mod), Port := 0, Head := [0, 0, 0, 0, 0, 0, 0, 0, 0, 0, 0, 0], Rules := [] } : Msg), 2)
   else
    some (({ Kind := v.1, Txn := v1.1, E := 0, Mod := v2.1, Port := 0, Head := [0, 0, 0, 0, 0, 0, 0, 0, 0, 0, 0, 0], Rules := [] } : Msg), 0)))
 else
  (bif (v.1 == 6) then
   (z62_raw v1.2 1).bind fun v3 =>
   (bif v3.2.end_ then
    some (({ Kind := 0, Txn := 0, E := 0, Mod := ({ Kind := 0, Match := ({ Value := [0, 0, 0, 0, 0, 0, 0, 0, 0, 0, 0, 0], Care := [0, 0, 0, 0, 0, 0, 0, 0, 0, 0, 0, 0] } : Cube), Prio := 0, Acts := [], Idle := 0, Hard := 0, Owner := 0, Check := false } : Mod), Port := 0, Head := [0, 0, 0, 0, 0, 0, 0, 0, 0, 0, 0, 0], Rules := [] } : Msg), 8)
   else
    (bif ((decide ((((List.map (intA .u8) v3.2.b).length : Nat) : Int) > 0)) || (!(z66 ({ Kind := v.1, Txn := v1.1, E := v3.1, Mod := ({ Kind := 0, Match := ({ Value := [0, 0, 0, 0, 0, 0, 0, 0, 0, 0, 0, 0], Care := [0, 0, 0, 0, 0, 0, 0, 0, 0, 0, 0, 0] } : Cube), Prio := 0, Acts := [], Idle := 0, Hard := 0, Owner := 0, Check := false } : Mod), Port := 0, Head := [0, 0, 0, 0, 0, 0, 0, 0, 0, 0, 0, 0], Rules := [] } : Msg)))) then
     some (({ Kind := 0, Txn := 0, E := 0, Mod := ({ Kind := 0, Match := ({ Value := [0, 0, 0, 0, 0, 0, 0, 0, 0, 0, 0, 0], Care := [0, 0, 0, 0, 0, 0, 0, 0, 0, 0, 0, 0] } : Cube), Prio := 0, Acts := [], Idle := 0, Hard := 0, Owner := 0, Check := false } : Mod), Port := 0, Head := [0, 0, 0, 0, 0, 0, 0, 0, 0, 0, 0, 0], Rules := [] } : Msg), 2)
    else
     some (({ Kind := v.1, Txn := v1.1, E := v3.1, Mod := ({ Kind := 0, Match := ({ Value := [0, 0, 0, 0, 0, 0, 0, 0, 0, 0, 0, 0], Care := [0, 0, 0, 0, 0, 0, 0, 0, 0, 0, 0, 0] } : Cube), Prio := 0, Acts := [], Idle := 0, Hard := 0, Owner := 0, Check := false } : Mod), Port := 0, Head := [0, 0, 0, 0, 0, 0, 0, 0, 0, 0, 0, 0], Rules := [] } : Msg), 0)))
  else
   (bif (v.1 == 8) then
    (z62_raw v1.2 1).bind fun v4 =>
    (z64_raw v4.2).bind fun v5 =>
    (bif v5.2.end_ then
     some (({ Kind := 0, Txn := 0, E := 0, Mod := ({ Kind := 0, Match := ({ Value := [0, 0, 0, 0, 0, 0, 0, 0, 0, 0, 0, 0], Care := [0, 0, 0, 0, 0, 0, 0, 0, 0, 0, 0, 0] } : Cube), Prio := 0, Acts := [], Idle := 0, Hard := 0, Owner := 0, Check := false } : Mod), Port := 0, Head := [0, 0, 0, 0, 0, 0, 0, 0, 0, 0, 0, 0], Rules := [] } : Msg), 8)
    else
     (bif ((decide ((((List.map (intA .u8) v5.2.b).length : Nat) : Int) > 0)) || (!(z66 ({ Kind := v.1, Txn := v1.1, E := 0, Mod := ({ Kind := 0, Match := ({ Value := [0, 0, 0, 0, 0, 0, 0, 0, 0, 0, 0, 0], Care := [0, 0, 0, 0, 0, 0, 0, 0, 0, 0, 0, 0] } : Cube), Prio := 0, Acts := [], Idle := 0, Hard := 0, Owner := 0, Check := false } : Mod), Port := v4.1, Head := v5.1, Rules := [] } : Msg)))) then
      some (({ Kind := 0, Txn := 0, E := 0, Mod := ({ Kind := 0, Match := ({ Value := [0, 0, 0, 0, 0, 0, 0, 0, 0, 0, 0, 0], Care := [0, 0, 0, 0, 0, 0, 0, 0, 0, 0, 0, 0] } : Cube), Prio := 0, Acts := [], Idle := 0, Hard := 0, Owner := 0, Check := false } : Mod), Port := 0, Head := [0, 0, 0, 0, 0, 0, 0, 0, 0, 0, 0, 0], Rules := [] } : Msg), 2)
     else
      some (({ Kind := v.1, Txn := v1.1, E := 0, Mod := ({ Kind := 0, Match := ({ Value := [0, 0, 0, 0, 0, 0, 0, 0, 0, 0, 0, 0], Care := [0, 0, 0, 0, 0, 0, 0, 0, 0, 0, 0, 0] } : Cube), Prio := 0, Acts := [], Idle := 0, Hard := 0, Owner := 0, Check := false } : Mod), Port := v4.1, Head := v5.1, Rules := [] } : Msg), 0)))
   else
    (bif (bif (v.1 == 9) then (v.1 == 9) else (v.1 == 10)) then
     (z65_raw 70000 v1.2).bind fun v6 =>
     (bif v6.2.end_ then
      some (({ Kind := 0, Txn := 0, E := 0, Mod := ({ Kind := 0, Match := ({ Value := [0, 0, 0, 0, 0, 0, 0, 0, 0, 0, 0, 0], Care := [0, 0, 0, 0, 0, 0, 0, 0, 0, 0, 0, 0] } : Cube), Prio := 0, Acts := [], Idle := 0, Hard := 0, Owner := 0, Check := false } : Mod), Port := 0, Head := [0, 0, 0, 0, 0, 0, 0, 0, 0, 0, 0, 0], Rules := [] } : Msg), 8)
     else
      (bif ((decide ((((List.map (intA .u8) v6.2.b).length : Nat) : Int) > 0)) || (!(z66 ({ Kind := v.1, Txn := v1.1, E := 0, Mod := ({ Kind := 0, Match := ({ Value := [0, 0, 0, 0, 0, 0, 0, 0, 0, 0, 0, 0], Care := [0, 0, 0, 0, 0, 0, 0, 0, 0, 0, 0, 0] } : Cube), Prio := 0, Acts := [], Idle := 0, Hard := 0, Owner := 0, Check := false } : Mod), Port := 0, Head := [0, 0, 0, 0, 0, 0, 0, 0, 0, 0, 0, 0], Rules := v6.1 } : Msg)))) then
       some (({ Kind := 0, Txn := 0, E := 0, Mod := ({ Kind := 0, Match := ({ Value := [0, 0, 0, 0, 0, 0, 0, 0, 0, 0, 0, 0], Care := [0, 0, 0, 0, 0, 0, 0, 0, 0, 0, 0, 0] } : Cube), Prio := 0, Acts := [], Idle := 0, Hard := 0, Owner := 0, Check := false } : Mod), Port := 0, Head := [0, 0, 0, 0, 0, 0, 0, 0, 0, 0, 0, 0], Rules := [] } : Msg), 2)
      else
       some (({ Kind := v.1, Txn := v1.1, E := 0, Mod := ({ Kind := 0, Match := ({ Value := [0, 0, 0, 0, 0, 0, 0, 0, 0, 0, 0, 0], Care := [0, 0, 0, 0, 0, 0, 0, 0, 0, 0, 0, 0] } : Cube), Prio := 0, Acts := [], Idle := 0, Hard := 0, Owner := 0, Check := false } : Mod), Port := 0, Head := [0, 0, 0, 0, 0, 0, 0, 0, 0, 0, 0, 0], Rules := v6.1 } : Msg), 0)))
    else
     (bif v1.2.end_ then
      some (({ Kind := 0, Txn := 0, E := 0, Mod := ({ Kind := 0, Match := ({ Value := [0, 0, 0, 0, 0, 0, 0, 0, 0, 0, 0, 0], Care := [0, 0, 0, 0, 0, 0, 0, 0, 0, 0, 0, 0] } : Cube), Prio := 0, Acts := [], Idle := 0, Hard := 0, Owner := 0, Check := false } : Mod), Port := 0, Head := [0, 0, 0, 0, 0, 0, 0, 0, 0, 0, 0, 0], Rules := [] } : Msg), 8)
     else
      (bif ((decide ((((List.map (intA .u8) v1.2.b).length : Nat) : Int) > 0)) || (!(z66 ({ Kind := v.1, Txn := v1.1, E := 0, Mod := ({ Kind := 0, Match := ({ Value := [0, 0, 0, 0, 0, 0, 0, 0, 0, 0, 0, 0], Care := [0, 0, 0, 0, 0, 0, 0, 0, 0, 0, 0, 0] } : Cube), Prio := 0, Acts := [], Idle := 0, Hard := 0, Owner := 0, Check := false } : Mod), Port := 0, Head := [0, 0, 0, 0, 0, 0, 0, 0, 0, 0, 0, 0], Rules := [] } : Msg)))) then
       some (({ Kind := 0, Txn := 0, E := 0, Mod := ({ Kind := 0, Match := ({ Value := [0, 0, 0, 0, 0, 0, 0, 0, 0, 0, 0, 0], Care := [0, 0, 0, 0, 0, 0, 0, 0, 0, 0, 0, 0] } : Cube), Prio := 0, Acts := [], Idle := 0, Hard := 0, Owner := 0, Check := false } : Mod), Port := 0, Head := [0, 0, 0, 0, 0, 0, 0, 0, 0, 0, 0, 0], Rules := [] } : Msg), 2)
      else
       some (({ Kind := v.1, Txn := v1.1, E := 0, Mod := ({ Kind := 0, Match := ({ Value := [0, 0, 0, 0, 0, 0, 0, 0, 0, 0, 0, 0], Care := [0, 0, 0, 0, 0, 0, 0, 0, 0, 0, 0, 0] } : Cube), Prio := 0, Acts := [], Idle := 0, Hard := 0, Owner := 0, Check := false } : Mod), Port := 0, Head := [0, 0, 0, 0, 0, 0, 0, 0, 0, 0, 0, 0], Rules := [] } : Msg), 0)))))))
theorem z36_walk (b : List Int) (f_b : Bool) (r : Msg × Int) (H : z36_raw b = some r) : ACalls Tryz.prog tab.S 36 [.sl 5 (List.map (intA .u8) b) f_b] [] (.tup [Msg.av r.1, .sc (.int .i64 r.2)]) [] := by
 refine .of_AX z36_F Tryz.func36 fun c0 hc0 => ?_
 rw [z36_raw] at H
 refine .sg 5 [2,4] (.rg (.sg 1 [2,4,10] (bndO H fun v hv H => (.ch [2,4,11] (es := [(0, false)]) [1] (z62_walk _ _ v hv) (.sg 1 [2,4,11,12] (bndO H fun v1 hv H => (.ch [2,4,11,13] [1] (z62_walk _ _ v1 hv) (.sg 3 [2,4,5] (.dn (.sg 8 [2,4,5,6,16,17] (.cd (v.1 == 1) H (fun hb H => ?_) (fun hb H => ?_))))))))))))
 ·
  refine .rg (.sg 1 [2,4,5,20] (bndO H fun v2 hv H => (.ch [2,4,5,21] [1] (z63_walk _ v2 hv) (.sg 6 [2,4,5,6] (.dn (.sg 5 [2,4,5,6,44] (.cd v2.2.2.end_ H (fun hb H => ?_) (fun hb H => ?_))))))))
  ·
   refine .sg 2 [2,3] ?_
   obtain rfl := Option.some.inj H
   exact .ret Tryz.func36 hc0 [] [(60, false), (70, false)]
  ·
   refine .sg 1 [2,4,5,6] (.rg (.sg 3 [2,4,5,53] (.mx 1 [2,5,60] (.sg 1 [2,5,61] (.mm 61 ((!v2.2.1) || (decide ((((List.map (intA .u8) v2.2.2.b).length : Nat) : Int) > 0))) 4 [.pure, .pure, .pure, .read] [2, 5, 65] 65 (fun z => .sc (.bool (z || (!(z66 ({ Kind := v.1, Txn := v1.1, E := 0, Mod := v2.1, Port := 0, Head := [0, 0, 0, 0, 0, 0, 0, 0, 0, 0, 0, 0], Rules := [] } : Msg)))))) ?J2 (fun hb J => ?ht2) (fun hb J => ?hf2))))))
   case ht2 =>
    exact .sg 4 [2,5,65] (.cl J)
   case hf2 =>
    exact .sg 1 [2,5,61,62] (.cp [2,5,61,63] (ds := [(0, true), (70, false)]) (z66_calls ({ Kind := v.1, Txn := v1.1, E := 0, Mod := v2.1, Port := 0, Head := [0, 0, 0, 0, 0, 0, 0, 0, 0, 0, 0, 0], Rules := [] } : Msg)) (.sg 2 [2,5,65] (.cl J)))
   refine .sg 1 [2,5,50] (.dn (.cd (((!v2.2.1) || (decide ((((List.map (intA .u8) v2.2.2.b).length : Nat) : Int) > 0))) || (!(z66 ({ Kind := v.1, Txn := v1.1, E := 0, Mod := v2.1, Port := 0, Head := [0, 0, 0, 0, 0, 0, 0, 0, 0, 0, 0, 0], Rules := [] } : Msg)))) H (fun hb H => ?_) (fun hb H => ?_)))
   ·
    refine .sg 2 [2,3] ?_
    obtain rfl := Option.some.inj H
    exact .ret Tryz.func36 hc0 [] [(60, false), (70, false)]
   ·
    refine .sg 4 [2,3] ?_
    obtain rfl := Option.some.inj H
    exact .ret Tryz.func36 hc0 [] [(0, true), (70, false)]
 ·
  refine .sg 2 [2,4,5,6,16,25] (.cd (v.1 == 6) H (fun hb H => ?_) (fun hb H => ?_))
  ·
   refine .rg (.sg 1 [2,4,5,6,27] (bndO H fun v3 hv H => (.ch [2,4,5,6,28] [1] (z62_walk _ _ v3 hv) (.sg 2 [2,4,5,6] (.dn (.sg 5 [2,4,5,6,44] (.cd v3.2.end_ H (fun hb H => ?_) (fun hb H => ?_))))))))
   ·
    refine .sg 2 [2,3] ?_
    obtain rfl := Option.some.inj H
    exact .ret Tryz.func36 hc0 [] [(60, false), (70, false)]
   ·
    refine .sg 1 [2,4,5,6] (.rg (.sg 11 [2,5,61] (.mm 61 (decide ((((List.map (intA .u8) v3.2.b).length : Nat) : Int) > 0)) 4 [.pure, .pure, .pure, .read] [2, 5, 65] 65 (fun z => .sc (.bool (z || (!(z66 ({ Kind := v.1, Txn := v1.1, E := v3.1, Mod := ({ Kind := 0, Match := ({ Value := [0, 0, 0, 0, 0, 0, 0, 0, 0, 0, 0, 0], Care := [0, 0, 0, 0, 0, 0, 0, 0, 0, 0, 0, 0] } : Cube), Prio := 0, Acts := [], Idle := 0, Hard := 0, Owner := 0, Check := false } : Mod), Port := 0, Head := [0, 0, 0, 0, 0, 0, 0, 0, 0, 0, 0, 0], Rules := [] } : Msg)))))) ?J3 (fun hb J => ?ht3) (fun hb J => ?hf3))))
    case ht3 =>
     exact .sg 4 [2,5,65] (.cl J)
    case hf3 =>
     exact .sg 1 [2,5,61,62] (.cp [2,5,61,63] (ds := [(60, false), (70, false)]) (z66_calls ({ Kind := v.1, Txn := v1.1, E := v3.1, Mod := ({ Kind := 0, Match := ({ Value := [0, 0, 0, 0, 0, 0, 0, 0, 0, 0, 0, 0], Care := [0, 0, 0, 0, 0, 0, 0, 0, 0, 0, 0, 0] } : Cube), Prio := 0, Acts := [], Idle := 0, Hard := 0, Owner := 0, Check := false } : Mod), Port := 0, Head := [0, 0, 0, 0, 0, 0, 0, 0, 0, 0, 0, 0], Rules := [] } : Msg)) (.sg 2 [2,5,65] (.cl J)))
    refine .sg 1 [2,5,50] (.dn (.cd ((decide ((((List.map (intA .u8) v3.2.b).length : Nat) : Int) > 0)) || (!(z66 ({ Kind := v.1, Txn := v1.1, E := v3.1, Mod := ({ Kind := 0, Match := ({ Value := [0, 0, 0, 0, 0, 0, 0, 0, 0, 0, 0, 0], Care := [0, 0, 0, 0, 0, 0, 0, 0, 0, 0, 0, 0] } : Cube), Prio := 0, Acts := [], Idle := 0, Hard := 0, Owner := 0, Check := false } : Mod), Port := 0, Head := [0, 0, 0, 0, 0, 0, 0, 0, 0, 0, 0, 0], Rules := [] } : Msg)))) H (fun hb H => ?_) (fun hb H => ?_)))
    ·
     refine .sg 2 [2,3] ?_
     obtain rfl := Option.some.inj H
     exact .ret Tryz.func36 hc0 [] [(60, false), (70, false)]
    ·
     refine .sg 4 [2,3] ?_
     obtain rfl := Option.some.inj H
     exact .ret Tryz.func36 hc0 [] [(60, false), (70, false)]
  ·
   refine .sg 2 [2,4,5,6,16,30] (.cd (v.1 == 8) H (fun hb H => ?_) (fun hb H => ?_))
   ·
    refine .rg (.sg 1 [2,4,5,6,32] (bndO H fun v4 hv H => (.ch [2,4,5,6,33] [1] (z62_walk _ _ v4 hv) (.sg 1 [2,4,5,6,33,34] (bndO H fun v5 hv H => (.ch [2,4,5,6,33,35] [1] (z64_walk _ v5 hv) (.sg 4 [2,4,5,6] (.dn (.sg 5 [2,4,5,6,44] (.cd v5.2.end_ H (fun hb H => ?_) (fun hb H => ?_)))))))))))
    ·
     refine .sg 2 [2,3] ?_
     obtain rfl := Option.some.inj H
     exact .ret Tryz.func36 hc0 [] [(60, false), (70, false)]
    ·
     refine .sg 1 [2,4,5,6] (.rg (.sg 11 [2,5,61] (.mm 61 (decide ((((List.map (intA .u8) v5.2.b).length : Nat) : Int) > 0)) 4 [.pure, .pure, .pure, .read] [2, 5, 65] 65 (fun z => .sc (.bool (z || (!(z66 ({ Kind := v.1, Txn := v1.1, E := 0, Mod := ({ Kind := 0, Match := ({ Value := [0, 0, 0, 0, 0, 0, 0, 0, 0, 0, 0, 0], Care := [0, 0, 0, 0, 0, 0, 0, 0, 0, 0, 0, 0] } : Cube), Prio := 0, Acts := [], Idle := 0, Hard := 0, Owner := 0, Check := false } : Mod), Port := v4.1, Head := v5.1, Rules := [] } : Msg)))))) ?J4 (fun hb J => ?ht4) (fun hb J => ?hf4))))
     case ht4 =>
      exact .sg 4 [2,5,65] (.cl J)
     case hf4 =>
      exact .sg 1 [2,5,61,62] (.cp [2,5,61,63] (ds := [(60, false), (70, false)]) (z66_calls ({ Kind := v.1, Txn := v1.1, E := 0, Mod := ({ Kind := 0, Match := ({ Value := [0, 0, 0, 0, 0, 0, 0, 0, 0, 0, 0, 0], Care := [0, 0, 0, 0, 0, 0, 0, 0, 0, 0, 0, 0] } : Cube), Prio := 0, Acts := [], Idle := 0, Hard := 0, Owner := 0, Check := false } : Mod), Port := v4.1, Head := v5.1, Rules := [] } : Msg)) (.sg 2 [2,5,65] (.cl J)))
     refine .sg 1 [2,5,50] (.dn (.cd ((decide ((((List.map (intA .u8) v5.2.b).length : Nat) : Int) > 0)) || (!(z66 ({ Kind := v.1, Txn := v1.1, E := 0, Mod := ({ Kind := 0, Match := ({ Value := [0, 0, 0, 0, 0, 0, 0, 0, 0, 0, 0, 0], Care := [0, 0, 0, 0, 0, 0, 0, 0, 0, 0, 0, 0] } : Cube), Prio := 0, Acts := [], Idle := 0, Hard := 0, Owner := 0, Check := false } : Mod), Port := v4.1, Head := v5.1, Rules := [] } : Msg)))) H (fun hb H => ?_) (fun hb H => ?_)))
     ·
      refine .sg 2 [2,3] ?_
      obtain rfl := Option.some.inj H
      exact .ret Tryz.func36 hc0 [] [(60, false), (70, false)]
     ·
      refine .sg 4 [2,3] ?_
      obtain rfl := Option.some.inj H
      exact .ret Tryz.func36 hc0 [] [(60, false), (70, false)]
   ·
    refine .sg 3 [2,4,5,6,16,38] (.jn (v.1 == 9) [2, 4, 5, 6, 38] (fun z => [(38, .sc (.bool (bif z then (v.1 == 9) else (v.1 == 10))))]) ?J5 (fun hb J => ?ht5) (fun hb J => ?hf5))
    case ht5 =>
     exact .sg 1 [2,4,5,6,38] (.cl J)
    case hf5 =>
     exact .sg 1 [2,4,5,6,38] (.cl J)
    refine .cd (bif (v.1 == 9) then (v.1 == 9) else (v.1 == 10)) H (fun hb H => ?_) (fun hb H => ?_)
    ·
     refine .rg (.sg 1 [2,4,5,6,41] (bndO H fun v6 hv H => (.ch [2,4,5,6,42] [1] ((z65_walk 70000) _ v6 hv) (.sg 2 [2,4,5,6] (.dn (.sg 5 [2,4,5,6,44] (.cd v6.2.end_ H (fun hb H => ?_) (fun hb H => ?_))))))))
     ·
      refine .sg 2 [2,3] ?_
      obtain rfl := Option.some.inj H
      exact .ret Tryz.func36 hc0 [] [(60, false), (70, false)]
     ·
      refine .sg 1 [2,4,5,6] (.rg (.sg 11 [2,5,61] (.mm 61 (decide ((((List.map (intA .u8) v6.2.b).length : Nat) : Int) > 0)) 4 [.pure, .pure, .pure, .read] [2, 5, 65] 65 (fun z => .sc (.bool (z || (!(z66 ({ Kind := v.1, Txn := v1.1, E := 0, Mod := ({ Kind := 0, Match := ({ Value := [0, 0, 0, 0, 0, 0, 0, 0, 0, 0, 0, 0], Care := [0, 0, 0, 0, 0, 0, 0, 0, 0, 0, 0, 0] } : Cube), Prio := 0, Acts := [], Idle := 0, Hard := 0, Owner := 0, Check := false } : Mod), Port := 0, Head := [0, 0, 0, 0, 0, 0, 0, 0, 0, 0, 0, 0], Rules := v6.1 } : Msg)))))) ?J6 (fun hb J => ?ht6) (fun hb J => ?hf6))))
      case ht6 =>
       exact .sg 4 [2,5,65] (.cl J)
      case hf6 =>
       exact .sg 1 [2,5,61,62] (.cp [2,5,61,63] (ds := [(60, false)]) (z66_calls ({ Kind := v.1, Txn := v1.1, E := 0, Mod := ({ Kind := 0, Match := ({ Value := [0, 0, 0, 0, 0, 0, 0, 0, 0, 0, 0, 0], Care := [0, 0, 0, 0, 0, 0, 0, 0, 0, 0, 0, 0] } : Cube), Prio := 0, Acts := [], Idle := 0, Hard := 0, Owner := 0, Check := false } : Mod), Port := 0, Head := [0, 0, 0, 0, 0, 0, 0, 0, 0, 0, 0, 0], Rules := v6.1 } : Msg)) (.sg 2 [2,5,65] (.cl J)))
      refine .sg 1 [2,5,50] (.dn (.cd ((decide ((((List.map (intA .u8) v6.2.b).length : Nat) : Int) > 0)) || (!(z66 ({ Kind := v.1, Txn := v1.1, E := 0, Mod := ({ Kind := 0, Match := ({ Value := [0, 0, 0, 0, 0, 0, 0, 0, 0, 0, 0, 0], Care := [0, 0, 0, 0, 0, 0, 0, 0, 0, 0, 0, 0] } : Cube), Prio := 0, Acts := [], Idle := 0, Hard := 0, Owner := 0, Check := false } : Mod), Port := 0, Head := [0, 0, 0, 0, 0, 0, 0, 0, 0, 0, 0, 0], Rules := v6.1 } : Msg)))) H (fun hb H => ?_) (fun hb H => ?_)))
      ·
       refine .sg 2 [2,3] ?_
       obtain rfl := Option.some.inj H
       exact .ret Tryz.func36 hc0 [] [(60, false), (70, false)]
      ·
       refine .sg 4 [2,3] ?_
       obtain rfl := Option.some.inj H
       exact .ret Tryz.func36 hc0 [] [(60, false)]
    ·
     refine .sg 6 [2,4,5,6,44] (.cd v1.2.end_ H (fun hb H => ?_) (fun hb H => ?_))
     ·
      refine .sg 2 [2,3] ?_
      obtain rfl := Option.some.inj H
      exact .ret Tryz.func36 hc0 [] [(60, false), (70, false)]
     ·
      refine .sg 1 [2,4,5,6] (.rg (.sg 11 [2,5,61] (.mm 61 (decide ((((List.map (intA .u8) v1.2.b).length : Nat) : Int) > 0)) 4 [.pure, .pure, .pure, .read] [2, 5, 65] 65 (fun z => .sc (.bool (z || (!(z66 ({ Kind := v.1, Txn := v1.1, E := 0, Mod := ({ Kind := 0, Match := ({ Value := [0, 0, 0, 0, 0, 0, 0, 0, 0, 0, 0, 0], Care := [0, 0, 0, 0, 0, 0, 0, 0, 0, 0, 0, 0] } : Cube), Prio := 0, Acts := [], Idle := 0, Hard := 0, Owner := 0, Check := false } : Mod), Port := 0, Head := [0, 0, 0, 0, 0, 0, 0, 0, 0, 0, 0, 0], Rules := [] } : Msg)))))) ?J7 (fun hb J => ?ht7) (fun hb J => ?hf7))))
      case ht7 =>
       exact .sg 4 [2,5,65] (.cl J)
      case hf7 =>
       exact .sg 1 [2,5,61,62] (.cp [2,5,61,63] (ds := [(60, false), (70, false)]) (z66_calls ({ Kind := v.1, Txn := v1.1, E := 0, Mod := ({ Kind := 0, Match := ({ Value := [0, 0, 0, 0, 0, 0, 0, 0, 0, 0, 0, 0], Care := [0, 0, 0, 0, 0, 0, 0, 0, 0, 0, 0, 0] } : Cube), Prio := 0, Acts := [], Idle := 0, Hard := 0, Owner := 0, Check := false } : Mod), Port := 0, Head := [0, 0, 0, 0, 0, 0, 0, 0, 0, 0, 0, 0], Rules := [] } : Msg)) (.sg 2 [2,5,65] (.cl J)))
      refine .sg 1 [2,5,50] (.dn (.cd ((decide ((((List.map (intA .u8) v1.2.b).length : Nat) : Int) > 0)) || (!(z66 ({ Kind := v.1, Txn := v1.1, E := 0, Mod := ({ Kind := 0, Match := ({ Value := [0, 0, 0, 0, 0, 0, 0, 0, 0, 0, 0, 0], Care := [0, 0, 0, 0, 0, 0, 0, 0, 0, 0, 0, 0] } : Cube), Prio := 0, Acts := [], Idle := 0, Hard := 0, Owner := 0, Check := false } : Mod), Port := 0, Head := [0, 0, 0, 0, 0, 0, 0, 0, 0, 0, 0, 0], Rules := [] } : Msg)))) H (fun hb H => ?_) (fun hb H => ?_)))
      ·
       refine .sg 2 [2,3] ?_
       obtain rfl := Option.some.inj H
       exact .ret Tryz.func36 hc0 [] [(60, false), (70, false)]
      ·
       refine .sg 4 [2,3] ?_
       obtain rfl := Option.some.inj H
       exact .ret Tryz.func36 hc0 [] [(60, false), (70, false)]
noncomputable def z67_F : Go.Sh.Fn := ⟨67, bodyOf Tryz.f67, 63⟩
def z67_raw (m1 : Msg) : Option ((List Int) × Int) :=
 (bif ((!(z66 m1)) || (decide ((((List.map Rule.av m1.Rules).length : Nat) : Int) > 65535))) then
  some ([], 2)
 else
  (putW ({ b := ([] : List Int) } : Writer) (IntKind.u64.wrap m1.Kind) 1).bind fun v =>
  (putW v (IntKind.u64.wrap m1.Txn) 4).bind fun v1 =>
  (bif (m1.Kind == 1) then
   (z94_raw v1 m1.Mod).bind fun v2 =>
   some (v2.b, 0)
  else
   (bif (m1.Kind == 6) then
    (putW v1 (IntKind.u64.wrap m1.E) 1).bind fun v3 =>
    some (v3.b, 0)
   else
    (bif (m1.Kind == 8) then
     (putW v1 (IntKind.u64.wrap m1.Port) 1).bind fun v4 =>
     (z95_raw v4 m1.Head).bind fun v5 =>
     some (v5.b, 0)
    else
     (bif (bif (m1.Kind == 9) then (m1.Kind == 9) else (m1.Kind == 10)) then
      (z96_raw v1 m1.Rules).bind fun v6 =>
      some (v6.b, 0)
     else
      some (v1.b, 0))))))
theorem z67_walk (m1 : Msg) (r : (List Int) × Int) (H : z67_raw m1 = some r) : ACalls Tryz.prog tab.S 67 [Msg.av m1] [] (.tup [.sl 5 (List.map (intA .u8) r.1) false, .sc (.int .i64 r.2)]) [] := by
 refine .of_AX z67_F Tryz.func67 fun c0 hc0 => ?_
 rw [z67_raw] at H
 refine .sg 4 [1] (.rg (.sg 1 [1,5] (.cp [1,6] (z66_calls m1) (.sg 2 [1,8] (.mx 1 [1,13] (.dn (.cd ((!(z66 m1)) || (decide ((((List.map Rule.av m1.Rules).length : Nat) : Int) > 65535))) H (fun hb H => ?_) (fun hb H => ?_))))))))
 ·
  refine .sg 2 [2,3] ?_
  obtain rfl := Option.some.inj H
  exact .ret Tryz.func67 hc0 [] [(5, false)]
 ·
  refine .sg 4 [1,4] (.adb 1 0 5 (.rg (.sg 4 [1,4,16,19] (bndO H fun v hv H => (.ch [1,4] [1,2] (z93_ok _ _ _ v hv) (.dn (.sg 1 [1,4] (.rg (.sg 4 [1,4,21,24] (bndO H fun v1 hv H => (.ch [1,4] [1,2] (z93_ok _ _ _ v1 hv) (.dn (.sg 6 [1,4,27,28] (.cd (m1.Kind == 1) H (fun hb H => ?_) (fun hb H => ?_)))))))))))))))
  ·
   refine .rg (.sg 3 [4,30,32] (bndO H fun v2 hv H => (.ch [4] [1,2] (z94_walk _ _ v2 hv) (.dn (.sg 3 [2,3] ?_)))))
   obtain rfl := Option.some.inj H
   exact .ret Tryz.func67 hc0
  ·
   refine .sg 2 [1,4,27,34] (.cd (m1.Kind == 6) H (fun hb H => ?_) (fun hb H => ?_))
   ·
    refine .rg (.sg 4 [4,36,39] (bndO H fun v3 hv H => (.ch [4] [1,2] (z93_ok _ _ _ v3 hv) (.dn (.sg 3 [2,3] ?_)))))
    obtain rfl := Option.some.inj H
    exact .ret Tryz.func67 hc0
   ·
    refine .sg 2 [1,4,27,41] (.cd (m1.Kind == 8) H (fun hb H => ?_) (fun hb H => ?_))
    ·
     refine .sg 1 [1,4] (.rg (.sg 4 [1,4,43,46] (bndO H fun v4 hv H => (.ch [1,4] [1,2] (z93_ok _ _ _ v4 hv) (.dn (.rg (.sg 3 [4,48,50] (bndO H fun v5 hv H => (.ch [4] [1,2] (z95_walk _ _ v5 hv) (.dn (.sg 3 [2,3] ?_)))))))))))
     obtain rfl := Option.some.inj H
     exact .ret Tryz.func67 hc0
    ·
     refine .sg 3 [1,4,27,52] (.jn (m1.Kind == 9) [1, 4, 52] (fun z => [(52, .sc (.bool (bif z then (m1.Kind == 9) else (m1.Kind == 10))))]) ?J2 (fun hb J => ?ht2) (fun hb J => ?hf2))
     case ht2 =>
      exact .sg 1 [1,4,52] (.cl J)
     case hf2 =>
      exact .sg 1 [1,4,52] (.cl J)
     refine .cd (bif (m1.Kind == 9) then (m1.Kind == 9) else (m1.Kind == 10)) H (fun hb H => ?_) (fun hb H => ?_)
     ·
      refine .rg (.sg 3 [4,55,57] (bndO H fun v6 hv H => (.ch [4] [1,2] (z96_walk _ _ false v6 hv) (.dn (.sg 3 [2,3] ?_)))))
      obtain rfl := Option.some.inj H
      exact .ret Tryz.func67 hc0
     ·
      refine .sg 4 [2,3] ?_
      obtain rfl := Option.some.inj H
      exact .ret Tryz.func67 hc0
end Go.Proofs.YtembchgiajidaaaGreat
namespace Go.Proofs.YtembchgiajidaaaGreat
open Go.Sh
open Go.ChangeShapes Go.WideShapes Go.ChangeAt Go.RowKit
def Act.wf (x : Act) : Prop := intW .i64 x.Kind ∧ intW .i64 x.Port ∧ intW .i64 x.Field ∧ intW .u64 x.Value
def Cube.wf (x : Cube) : Prop := arrW .u64 12 x.Value ∧ arrW .u64 12 x.Care
def Rule.wf (x : Rule) : Prop := Cube.wf x.Match ∧ intW .i64 x.Prio ∧ (∀ y ∈ x.Acts, Act.wf y) ∧ intW .i64 x.Idle ∧ intW .i64 x.Hard ∧ intW .i64 x.Owner ∧ intW .i64 x.Hits ∧ intW .i64 x.Quiet ∧ intW .i64 x.Age
def Mod.wf (x : Mod) : Prop := intW .i64 x.Kind ∧ Cube.wf x.Match ∧ intW .i64 x.Prio ∧ (∀ y ∈ x.Acts, Act.wf y) ∧ intW .i64 x.Idle ∧ intW .i64 x.Hard ∧ intW .i64 x.Owner ∧ True
def Msg.wf (x : Msg) : Prop := intW .i64 x.Kind ∧ intW .i64 x.Txn ∧ intW .i64 x.E ∧ Mod.wf x.Mod ∧ intW .i64 x.Port ∧ arrW .u64 12 x.Head ∧ (∀ y ∈ x.Rules, Rule.wf y)
def End.wf (x : End) : Prop := intW .i64 x.Unit ∧ intW .i64 x.Port
def Link.wf (x : Link) : Prop := End.wf x.A ∧ End.wf x.B
def Setup.wf (x : Setup) : Prop := intW .i64 x.Units ∧ intW .i64 x.Ports ∧ intW .i64 x.Room ∧ (∀ y ∈ x.Links, Link.wf y)
end Go.Proofs.YtembchgiajidaaaGreat
namespace Go.Proofs.YtembchgiajidaaaGreat
open Go.Sh
end Go.Proofs.YtembchgiajidaaaGreat
namespace Go.Proofs.YtembchgiajidaaaGreat
open Go.Sh
def Bytes (b : List Int) : Prop := ∀ y ∈ b, 0 ≤ y ∧ y ≤ 255
theorem Bytes.tail {c : Int} {r : List Int} (h : Bytes (c :: r)) : Bytes r := fun y hy => h y (List.mem_cons_of_mem _ hy)
theorem Bytes.left {a b : List Int} (h : Bytes (a ++ b)) : Bytes a := fun y hy => h y (List.mem_append_left _ hy)
theorem Bytes.right {a b : List Int} (h : Bytes (a ++ b)) : Bytes b := fun y hy => h y (List.mem_append_right _ hy)
abbrev Ps (α : Type) := List Int → Option (α × List Int)
structure Cod {α : Type} (p : Ps α) (e : α → List Int) (V : α → Prop) : Prop where
 dec : ∀ b a r, Bytes b → p b = some (a, r) → b = e a ++ r ∧ V a
 enc : ∀ a r, V a → p (e a ++ r) = some (a, r)
 byt : ∀ a, V a → Bytes (e a)
end Go.Proofs.YtembchgiajidaaaGreat
namespace Go.Proofs.YtembchgiajidaaaGreat
open Go.Sh
structure Good {α : Type} (c : α → α → Int) : Prop where
 eq : ∀ a b, c a b = 0 ↔ a = b
 anti : ∀ a b, 0 < c b a ↔ c a b < 0
 trans : ∀ a b d, c a b < 0 → c b d < 0 → c a d < 0
def Rule.key (r : Rule) : Int × List Int × List Int := (r.Prio, r.Match.Care, r.Match.Value)
end Go.Proofs.YtembchgiajidaaaGreat
namespace Go.Proofs.YtembchgiajidaaaGreat
open Go.Sh
end Go.Proofs.YtembchgiajidaaaGreat
namespace Go.Proofs.YtembchgiajidaaaGreat
open Go.Sh
end Go.Proofs.YtembchgiajidaaaGreat
namespace Go.Proofs.YtembchgiajidaaaGreat
open Go.Sh
end Go.Proofs.YtembchgiajidaaaGreat
namespace Go.Proofs.YtembchgiajidaaaGreat
open Go.Sh
end Go.Proofs.YtembchgiajidaaaGreat