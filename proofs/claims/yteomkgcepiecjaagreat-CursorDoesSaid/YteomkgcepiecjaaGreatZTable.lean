/- The seat's types, as rows. Printed by a program. -/
import Derived.Test.YteomkgcepiecjaaGreatProg
import Derived.Test.YteomkgcepiecjaaGreatZM2
import Derived.KernelRfl
namespace Go.Proofs.YteomkgcepiecjaaGreat.I
open Go
set_option maxRecDepth 20000
def table : Table := [
  (1, ⟨.other, 1, 8, true, .nilf⟩),
  (2, ⟨.int .i64, 1, 8, true, .z 0⟩),
  (3, ⟨.int .i64, 1, 8, true, .z 0⟩),
  (4, ⟨.bool, 1, 1, true, .b false⟩),
  (5, ⟨.int .u8, 1, 1, true, .n .u8 0⟩),
  (9, ⟨.string, 1, 16, true, .s ByteArray.empty⟩),
  (12, ⟨.int .u64, 1, 8, true, .n .u64 0⟩),
  (20, ⟨.iface, 1, 16, false, .nili⟩),
  (22, ⟨.int .u64, 1, 8, true, .n .u64 0⟩),
  (23, ⟨.slice 62, 1, 24, true, .nils⟩),
  (24, ⟨.other, 1, 8, true, .nilf⟩),
  (25, ⟨.array 4 22, 4, 32, true, .agg [.n .u64 0, .n .u64 0, .n .u64 0, .n .u64 0]⟩),
  (26, ⟨.struct [(0, 22), (1, 22)], 2, 16, true, .agg [.n .u64 0, .n .u64 0]⟩),
  (27, ⟨.struct [(0, 22), (1, 22)], 2, 16, true, .agg [.n .u64 0, .n .u64 0]⟩),
  (28, ⟨.struct [(0, 27), (2, 27)], 4, 32, true, .agg [.n .u64 0, .n .u64 0, .n .u64 0, .n .u64 0]⟩),
  (29, ⟨.struct [(0, 27), (2, 27)], 4, 32, true, .agg [.n .u64 0, .n .u64 0, .n .u64 0, .n .u64 0]⟩),
  (30, ⟨.int .u32, 1, 4, true, .n .u32 0⟩),
  (31, ⟨.array 2 30, 2, 8, true, .agg [.n .u32 0, .n .u32 0]⟩),
  (32, ⟨.struct [(0, 27), (2, 31), (4, 4)], 5, 32, true, .agg [.n .u64 0, .n .u64 0, .n .u32 0, .n .u32 0, .b false]⟩),
  (33, ⟨.struct [(0, 27), (2, 31), (4, 4)], 5, 32, true, .agg [.n .u64 0, .n .u64 0, .n .u32 0, .n .u32 0, .b false]⟩),
  (34, ⟨.struct [(0, 3), (1, 22), (2, 25), (6, 29), (10, 33)], 15, 112, true, .agg [.z 0, .n .u64 0, .n .u64 0, .n .u64 0, .n .u64 0, .n .u64 0, .n .u64 0, .n .u64 0, .n .u64 0, .n .u64 0, .n .u64 0, .n .u64 0, .n .u32 0, .n .u32 0, .b false]⟩),
  (35, ⟨.struct [(0, 3), (1, 22), (2, 25), (6, 29), (10, 33)], 15, 112, true, .agg [.z 0, .n .u64 0, .n .u64 0, .n .u64 0, .n .u64 0, .n .u64 0, .n .u64 0, .n .u64 0, .n .u64 0, .n .u64 0, .n .u64 0, .n .u64 0, .n .u32 0, .n .u32 0, .b false]⟩),
  (36, ⟨.int .i64, 1, 8, true, .z 0⟩),
  (38, ⟨.other, 1, 8, true, .nilf⟩),
  (39, ⟨.ptr 135, 1, 8, true, .nilp⟩),
  (41, ⟨.other, 1, 8, true, .nilf⟩),
  (42, ⟨.struct [(0, 22), (1, 22)], 2, 16, true, .agg [.n .u64 0, .n .u64 0]⟩),
  (43, ⟨.other, 1, 8, true, .nilf⟩),
  (45, ⟨.other, 1, 8, true, .nilf⟩),
  (46, ⟨.other, 1, 8, true, .nilf⟩),
  (47, ⟨.ptr 50, 1, 8, true, .nilp⟩),
  (48, ⟨.other, 1, 8, true, .nilf⟩),
  (49, ⟨.struct [(0, 35), (15, 27), (17, 3), (18, 27)], 20, 152, true, .agg [.z 0, .n .u64 0, .n .u64 0, .n .u64 0, .n .u64 0, .n .u64 0, .n .u64 0, .n .u64 0, .n .u64 0, .n .u64 0, .n .u64 0, .n .u64 0, .n .u32 0, .n .u32 0, .b false, .n .u64 0, .n .u64 0, .z 0, .n .u64 0, .n .u64 0]⟩),
  (50, ⟨.struct [(0, 35), (15, 27), (17, 3), (18, 27)], 20, 152, true, .agg [.z 0, .n .u64 0, .n .u64 0, .n .u64 0, .n .u64 0, .n .u64 0, .n .u64 0, .n .u64 0, .n .u64 0, .n .u64 0, .n .u64 0, .n .u64 0, .n .u32 0, .n .u32 0, .b false, .n .u64 0, .n .u64 0, .z 0, .n .u64 0, .n .u64 0]⟩),
  (51, ⟨.other, 1, 8, true, .nilf⟩),
  (52, ⟨.array 4 22, 4, 32, true, .agg [.n .u64 0, .n .u64 0, .n .u64 0, .n .u64 0]⟩),
  (53, ⟨.struct [(0, 42), (2, 42)], 4, 32, true, .agg [.n .u64 0, .n .u64 0, .n .u64 0, .n .u64 0]⟩),
  (54, ⟨.struct [(0, 42), (2, 42)], 4, 32, true, .agg [.n .u64 0, .n .u64 0, .n .u64 0, .n .u64 0]⟩),
  (55, ⟨.array 2 30, 2, 8, true, .agg [.n .u32 0, .n .u32 0]⟩),
  (56, ⟨.struct [(0, 42), (2, 55), (4, 4)], 5, 32, true, .agg [.n .u64 0, .n .u64 0, .n .u32 0, .n .u32 0, .b false]⟩),
  (57, ⟨.struct [(0, 42), (2, 55), (4, 4)], 5, 32, true, .agg [.n .u64 0, .n .u64 0, .n .u32 0, .n .u32 0, .b false]⟩),
  (58, ⟨.struct [(0, 3), (1, 22), (2, 52), (6, 54), (10, 57)], 15, 112, true, .agg [.z 0, .n .u64 0, .n .u64 0, .n .u64 0, .n .u64 0, .n .u64 0, .n .u64 0, .n .u64 0, .n .u64 0, .n .u64 0, .n .u64 0, .n .u64 0, .n .u32 0, .n .u32 0, .b false]⟩),
  (59, ⟨.struct [(0, 3), (1, 22), (2, 52), (6, 54), (10, 57)], 15, 112, true, .agg [.z 0, .n .u64 0, .n .u64 0, .n .u64 0, .n .u64 0, .n .u64 0, .n .u64 0, .n .u64 0, .n .u64 0, .n .u64 0, .n .u64 0, .n .u64 0, .n .u32 0, .n .u32 0, .b false]⟩),
  (60, ⟨.other, 1, 8, true, .nilf⟩),
  (61, ⟨.struct [(0, 3), (1, 42)], 3, 24, true, .agg [.z 0, .n .u64 0, .n .u64 0]⟩),
  (62, ⟨.struct [(0, 3), (1, 42)], 3, 24, true, .agg [.z 0, .n .u64 0, .n .u64 0]⟩),
  (64, ⟨.other, 1, 8, true, .nilf⟩),
  (65, ⟨.other, 1, 8, true, .nilf⟩),
  (66, ⟨.other, 1, 8, true, .nilf⟩),
  (67, ⟨.other, 1, 8, true, .nilf⟩),
  (68, ⟨.other, 1, 8, true, .nilf⟩),
  (69, ⟨.slice 22, 1, 24, true, .nils⟩),
  (70, ⟨.other, 1, 8, true, .nilf⟩),
  (71, ⟨.other, 1, 8, true, .nilf⟩),
  (72, ⟨.other, 1, 8, true, .nilf⟩),
  (73, ⟨.other, 1, 8, true, .nilf⟩),
  (75, ⟨.other, 1, 8, true, .nilf⟩),
  (76, ⟨.other, 1, 8, true, .nilf⟩),
  (78, ⟨.other, 1, 8, true, .nilf⟩),
  (79, ⟨.other, 1, 8, true, .nilf⟩),
  (80, ⟨.other, 1, 8, true, .nilf⟩),
  (81, ⟨.other, 1, 8, true, .nilf⟩),
  (82, ⟨.other, 1, 8, true, .nilf⟩),
  (83, ⟨.struct [(0, 42), (2, 42)], 4, 32, true, .agg [.n .u64 0, .n .u64 0, .n .u64 0, .n .u64 0]⟩),
  (84, ⟨.struct [(0, 42), (2, 42)], 4, 32, true, .agg [.n .u64 0, .n .u64 0, .n .u64 0, .n .u64 0]⟩),
  (85, ⟨.slice 90, 1, 24, true, .nils⟩),
  (86, ⟨.ptr 155, 1, 8, true, .nilp⟩),
  (88, ⟨.other, 1, 8, true, .nilf⟩),
  (89, ⟨.struct [(0, 3), (1, 3), (2, 42)], 4, 32, true, .agg [.z 0, .z 0, .n .u64 0, .n .u64 0]⟩),
  (90, ⟨.struct [(0, 3), (1, 3), (2, 42)], 4, 32, true, .agg [.z 0, .z 0, .n .u64 0, .n .u64 0]⟩),
  (91, ⟨.other, 1, 8, true, .nilf⟩),
  (92, ⟨.other, 1, 8, true, .nilf⟩),
  (93, ⟨.other, 1, 8, true, .nilf⟩),
  (94, ⟨.other, 1, 8, true, .nilf⟩),
  (95, ⟨.other, 1, 8, true, .nilf⟩),
  (96, ⟨.slice 5, 1, 24, true, .nils⟩),
  (98, ⟨.other, 1, 8, true, .nilf⟩),
  (99, ⟨.other, 1, 8, true, .nilf⟩),
  (100, ⟨.other, 1, 8, true, .nilf⟩),
  (101, ⟨.ptr 103, 1, 8, true, .nilp⟩),
  (102, ⟨.struct [(0, 47), (1, 27)], 3, 24, true, .agg [.nilp, .n .u64 0, .n .u64 0]⟩),
  (103, ⟨.struct [(0, 47), (1, 27)], 3, 24, true, .agg [.nilp, .n .u64 0, .n .u64 0]⟩),
  (105, ⟨.other, 1, 8, true, .nilf⟩),
  (106, ⟨.other, 1, 8, true, .nilf⟩),
  (107, ⟨.other, 1, 8, true, .nilf⟩),
  (108, ⟨.other, 1, 8, true, .nilf⟩),
  (109, ⟨.other, 1, 8, true, .nilf⟩),
  (111, ⟨.other, 1, 8, true, .nilf⟩),
  (112, ⟨.other, 1, 8, true, .nilf⟩),
  (114, ⟨.other, 1, 8, true, .nilf⟩),
  (115, ⟨.other, 1, 8, true, .nilf⟩),
  (116, ⟨.array 2 22, 2, 16, true, .agg [.n .u64 0, .n .u64 0]⟩),
  (117, ⟨.other, 1, 8, true, .nilf⟩),
  (119, ⟨.other, 1, 8, true, .nilf⟩),
  (120, ⟨.slice 3, 1, 24, true, .nils⟩),
  (122, ⟨.other, 1, 8, true, .nilf⟩),
  (123, ⟨.other, 1, 8, true, .nilf⟩),
  (124, ⟨.other, 1, 8, true, .nilf⟩),
  (125, ⟨.other, 1, 8, true, .nilf⟩),
  (126, ⟨.other, 1, 8, true, .nilf⟩),
  (127, ⟨.other, 1, 8, true, .nilf⟩),
  (128, ⟨.other, 1, 8, true, .nilf⟩),
  (129, ⟨.other, 1, 8, true, .nilf⟩),
  (130, ⟨.other, 1, 8, true, .nilf⟩),
  (131, ⟨.other, 1, 8, true, .nilf⟩),
  (132, ⟨.other, 1, 8, true, .nilf⟩),
  (133, ⟨.array 8 22, 8, 64, true, .agg [.n .u64 0, .n .u64 0, .n .u64 0, .n .u64 0, .n .u64 0, .n .u64 0, .n .u64 0, .n .u64 0]⟩),
  (134, ⟨.struct [(0, 3), (1, 22), (2, 42), (4, 133), (12, 69), (13, 59)], 28, 232, true, .agg [.z 0, .n .u64 0, .n .u64 0, .n .u64 0, .n .u64 0, .n .u64 0, .n .u64 0, .n .u64 0, .n .u64 0, .n .u64 0, .n .u64 0, .n .u64 0, .nils, .z 0, .n .u64 0, .n .u64 0, .n .u64 0, .n .u64 0, .n .u64 0, .n .u64 0, .n .u64 0, .n .u64 0, .n .u64 0, .n .u64 0, .n .u64 0, .n .u32 0, .n .u32 0, .b false]⟩),
  (135, ⟨.struct [(0, 3), (1, 22), (2, 42), (4, 133), (12, 69), (13, 59)], 28, 232, true, .agg [.z 0, .n .u64 0, .n .u64 0, .n .u64 0, .n .u64 0, .n .u64 0, .n .u64 0, .n .u64 0, .n .u64 0, .n .u64 0, .n .u64 0, .n .u64 0, .nils, .z 0, .n .u64 0, .n .u64 0, .n .u64 0, .n .u64 0, .n .u64 0, .n .u64 0, .n .u64 0, .n .u64 0, .n .u64 0, .n .u64 0, .n .u64 0, .n .u32 0, .n .u32 0, .b false]⟩),
  (136, ⟨.other, 1, 8, true, .nilf⟩),
  (137, ⟨.other, 1, 8, true, .nilf⟩),
  (138, ⟨.other, 1, 8, true, .nilf⟩),
  (139, ⟨.other, 1, 8, true, .nilf⟩),
  (140, ⟨.other, 1, 8, true, .nilf⟩),
  (141, ⟨.other, 1, 8, true, .nilf⟩),
  (142, ⟨.other, 1, 8, true, .nilf⟩),
  (143, ⟨.other, 1, 8, true, .nilf⟩),
  (145, ⟨.other, 1, 8, true, .nilf⟩),
  (147, ⟨.other, 1, 8, true, .nilf⟩),
  (148, ⟨.other, 1, 8, true, .nilf⟩),
  (149, ⟨.iface, 1, 16, false, .nili⟩),
  (150, ⟨.iface, 1, 16, false, .nili⟩),
  (151, ⟨.other, 1, 8, true, .nilf⟩),
  (152, ⟨.other, 1, 8, true, .nilf⟩),
  (153, ⟨.other, 1, 8, true, .nilf⟩),
  (154, ⟨.struct [(0, 39), (1, 42)], 3, 24, true, .agg [.nilp, .n .u64 0, .n .u64 0]⟩),
  (155, ⟨.struct [(0, 39), (1, 42)], 3, 24, true, .agg [.nilp, .n .u64 0, .n .u64 0]⟩),
  (156, ⟨.other, 1, 8, true, .nilf⟩),
  (157, ⟨.other, 1, 8, true, .nilf⟩),
  (159, ⟨.other, 1, 8, true, .nilf⟩),
  (160, ⟨.other, 1, 8, true, .nilf⟩),
  (161, ⟨.other, 1, 8, true, .nilf⟩),
  (162, ⟨.struct [(0, 27), (2, 27)], 4, 32, true, .agg [.n .u64 0, .n .u64 0, .n .u64 0, .n .u64 0]⟩),
  (163, ⟨.struct [(0, 27), (2, 27)], 4, 32, true, .agg [.n .u64 0, .n .u64 0, .n .u64 0, .n .u64 0]⟩),
  (164, ⟨.other, 1, 8, true, .nilf⟩),
  (165, ⟨.other, 1, 8, true, .nilf⟩),
  (166, ⟨.other, 1, 8, true, .nilf⟩),
  (167, ⟨.other, 1, 8, true, .nilf⟩),
  (168, ⟨.struct [(0, 3), (1, 167)], 2, 16, true, .agg [.z 0, .nilf]⟩),
  (169, ⟨.struct [(0, 3), (1, 167)], 2, 16, true, .agg [.z 0, .nilf]⟩),
  (170, ⟨.array 4 169, 8, 64, true, .agg [.z 0, .nilf, .z 0, .nilf, .z 0, .nilf, .z 0, .nilf]⟩),
  (171, ⟨.other, 1, 8, true, .nilf⟩),
  (173, ⟨.other, 1, 8, true, .nilf⟩),
  (174, ⟨.other, 1, 8, true, .nilf⟩),
  (175, ⟨.other, 1, 8, true, .nilf⟩),
  (176, ⟨.other, 1, 8, true, .nilf⟩),
  (177, ⟨.other, 1, 8, true, .nilf⟩),
  (178, ⟨.other, 1, 8, true, .nilf⟩),
  (179, ⟨.other, 1, 8, true, .nilf⟩),
  (180, ⟨.other, 1, 8, true, .nilf⟩),
  (181, ⟨.other, 1, 8, true, .nilf⟩),
  (182, ⟨.other, 1, 8, true, .nilf⟩),
  (183, ⟨.other, 1, 8, true, .nilf⟩),
  (184, ⟨.other, 1, 8, true, .nilf⟩),
  (185, ⟨.other, 1, 8, true, .nilf⟩),
  (186, ⟨.struct [], 0, 0, true, .agg []⟩),
  (187, ⟨.struct [], 0, 0, true, .agg []⟩),
  (188, ⟨.struct [], 0, 0, true, .agg []⟩),
  (189, ⟨.struct [], 0, 0, true, .agg []⟩),
  (190, ⟨.struct [], 0, 0, true, .agg []⟩),
  (191, ⟨.other, 1, 8, true, .nilf⟩),
  (192, ⟨.other, 1, 8, true, .nilf⟩),
  (194, ⟨.other, 1, 8, true, .nilf⟩),
  (195, ⟨.other, 1, 8, true, .nilf⟩),
  (196, ⟨.other, 1, 8, true, .nilf⟩),
  (197, ⟨.int .u64, 1, 8, true, .n .u64 0⟩),
  (198, ⟨.other, 1, 8, true, .nilf⟩),
  (199, ⟨.other, 1, 8, true, .nilf⟩),
  (200, ⟨.array 4 30, 4, 16, true, .agg [.n .u32 0, .n .u32 0, .n .u32 0, .n .u32 0]⟩),
  (201, ⟨.other, 1, 8, true, .nilf⟩),
  (202, ⟨.other, 1, 8, true, .nilf⟩),
  (203, ⟨.other, 1, 8, true, .nilf⟩),
  (204, ⟨.other, 1, 8, true, .nilf⟩),
  (205, ⟨.iface, 1, 16, false, .nili⟩),
  (206, ⟨.iface, 1, 16, false, .nili⟩),
  (207, ⟨.other, 1, 8, true, .nilf⟩),
  (208, ⟨.other, 1, 8, true, .nilf⟩),
  (209, ⟨.other, 1, 8, true, .nilf⟩),
  (210, ⟨.other, 1, 8, true, .nilf⟩),
  (211, ⟨.struct [(0, 3), (1, 22), (2, 22)], 3, 24, true, .agg [.z 0, .n .u64 0, .n .u64 0]⟩),
  (212, ⟨.struct [(0, 3), (1, 22), (2, 22)], 3, 24, true, .agg [.z 0, .n .u64 0, .n .u64 0]⟩),
  (213, ⟨.array 3 212, 9, 72, true, .agg [.z 0, .n .u64 0, .n .u64 0, .z 0, .n .u64 0, .n .u64 0, .z 0, .n .u64 0, .n .u64 0]⟩),
  (214, ⟨.other, 1, 8, true, .nilf⟩),
  (215, ⟨.ptr 309, 1, 8, true, .nilp⟩),
  (216, ⟨.other, 1, 8, true, .nilf⟩),
  (225, ⟨.ptr 5, 1, 8, true, .nilp⟩),
  (230, ⟨.other, 1, 8, true, .nilf⟩),
  (231, ⟨.other, 1, 8, true, .nilf⟩),
  (232, ⟨.other, 1, 8, true, .nilf⟩),
  (233, ⟨.other, 1, 8, true, .nilf⟩),
  (235, ⟨.other, 1, 8, true, .nilf⟩),
  (236, ⟨.other, 1, 8, true, .nilf⟩),
  (237, ⟨.other, 1, 8, true, .nilf⟩),
  (238, ⟨.other, 1, 8, true, .nilf⟩),
  (239, ⟨.other, 1, 8, true, .nilf⟩),
  (240, ⟨.slice 22, 1, 24, true, .nils⟩),
  (241, ⟨.other, 1, 8, true, .nilf⟩),
  (242, ⟨.other, 1, 8, true, .nilf⟩),
  (243, ⟨.other, 1, 8, true, .nilf⟩),
  (244, ⟨.other, 1, 8, true, .nilf⟩),
  (246, ⟨.other, 1, 8, true, .nilf⟩),
  (247, ⟨.other, 1, 8, true, .nilf⟩),
  (248, ⟨.other, 1, 8, true, .nilf⟩),
  (249, ⟨.other, 1, 8, true, .nilf⟩),
  (250, ⟨.other, 1, 8, true, .nilf⟩),
  (251, ⟨.other, 1, 8, true, .nilf⟩),
  (252, ⟨.slice 4, 1, 24, true, .nils⟩),
  (254, ⟨.other, 1, 8, true, .nilf⟩),
  (256, ⟨.other, 1, 8, true, .nilf⟩),
  (257, ⟨.other, 1, 8, true, .nilf⟩),
  (258, ⟨.other, 1, 8, true, .nilf⟩),
  (259, ⟨.other, 1, 8, true, .nilf⟩),
  (260, ⟨.other, 1, 8, true, .nilf⟩),
  (261, ⟨.other, 1, 8, true, .nilf⟩),
  (262, ⟨.other, 1, 8, true, .nilf⟩),
  (263, ⟨.other, 1, 8, true, .nilf⟩),
  (264, ⟨.other, 1, 8, true, .nilf⟩),
  (265, ⟨.other, 1, 8, true, .nilf⟩),
  (266, ⟨.ptr 52, 1, 8, true, .nilp⟩),
  (267, ⟨.struct [(0, 240), (1, 240), (2, 3), (3, 3)], 4, 64, true, .agg [.nils, .nils, .z 0, .z 0]⟩),
  (268, ⟨.struct [(0, 240), (1, 240), (2, 3), (3, 3)], 4, 64, true, .agg [.nils, .nils, .z 0, .z 0]⟩),
  (269, ⟨.other, 1, 8, true, .nilf⟩),
  (271, ⟨.other, 1, 8, true, .nilf⟩),
  (272, ⟨.other, 1, 8, true, .nilf⟩),
  (273, ⟨.other, 1, 8, true, .nilf⟩),
  (274, ⟨.other, 1, 8, true, .nilf⟩),
  (275, ⟨.struct [(0, 240), (1, 240)], 2, 48, true, .agg [.nils, .nils]⟩),
  (276, ⟨.struct [(0, 240), (1, 240)], 2, 48, true, .agg [.nils, .nils]⟩),
  (277, ⟨.other, 1, 8, true, .nilf⟩),
  (279, ⟨.other, 1, 8, true, .nilf⟩),
  (280, ⟨.other, 1, 8, true, .nilf⟩),
  (281, ⟨.other, 1, 8, true, .nilf⟩),
  (282, ⟨.other, 1, 8, true, .nilf⟩),
  (283, ⟨.other, 1, 8, true, .nilf⟩),
  (284, ⟨.struct [(0, 42), (2, 42)], 4, 32, true, .agg [.n .u64 0, .n .u64 0, .n .u64 0, .n .u64 0]⟩),
  (285, ⟨.struct [(0, 42), (2, 42)], 4, 32, true, .agg [.n .u64 0, .n .u64 0, .n .u64 0, .n .u64 0]⟩),
  (286, ⟨.other, 1, 8, true, .nilf⟩),
  (287, ⟨.other, 1, 8, true, .nilf⟩),
  (288, ⟨.other, 1, 8, true, .nilf⟩),
  (289, ⟨.other, 1, 8, true, .nilf⟩),
  (290, ⟨.other, 1, 8, true, .nilf⟩),
  (291, ⟨.other, 1, 8, true, .nilf⟩),
  (292, ⟨.other, 1, 8, true, .nilf⟩),
  (293, ⟨.array 4 30, 4, 16, true, .agg [.n .u32 0, .n .u32 0, .n .u32 0, .n .u32 0]⟩),
  (294, ⟨.other, 1, 8, true, .nilf⟩),
  (295, ⟨.other, 1, 8, true, .nilf⟩),
  (296, ⟨.other, 1, 8, true, .nilf⟩),
  (297, ⟨.map 4 22, 1, 8, true, .nilm⟩),
  (299, ⟨.other, 1, 8, true, .nilf⟩),
  (300, ⟨.slice 305, 1, 24, true, .nils⟩),
  (302, ⟨.other, 1, 8, true, .nilf⟩),
  (303, ⟨.other, 1, 8, true, .nilf⟩),
  (304, ⟨.struct [(0, 303), (1, 303)], 2, 16, true, .agg [.nilf, .nilf]⟩),
  (305, ⟨.struct [(0, 303), (1, 303)], 2, 16, true, .agg [.nilf, .nilf]⟩),
  (306, ⟨.other, 1, 8, true, .nilf⟩),
  (307, ⟨.other, 1, 8, true, .nilf⟩),
  (308, ⟨.struct [(0, 9)], 1, 16, true, .agg [.s ByteArray.empty]⟩),
  (309, ⟨.struct [(0, 9)], 1, 16, true, .agg [.s ByteArray.empty]⟩)]
def T : TypeId → Option TI := table.get
@[go_sem] theorem T_1 : T 1 = some ⟨.other, 1, 8, true, .nilf⟩ := rfl 
@[go_sem] theorem T_2 : T 2 = some ⟨.int .i64, 1, 8, true, .z 0⟩ := rfl 
@[go_sem] theorem T_3 : T 3 = some ⟨.int .i64, 1, 8, true, .z 0⟩ := rfl 
@[go_sem] theorem T_4 : T 4 = some ⟨.bool, 1, 1, true, .b false⟩ := rfl 
@[go_sem] theorem T_5 : T 5 = some ⟨.int .u8, 1, 1, true, .n .u8 0⟩ := rfl 
@[go_sem] theorem T_9 : T 9 = some ⟨.string, 1, 16, true, .s ByteArray.empty⟩ := rfl 
@[go_sem] theorem T_12 : T 12 = some ⟨.int .u64, 1, 8, true, .n .u64 0⟩ := rfl 
@[go_sem] theorem T_20 : T 20 = some ⟨.iface, 1, 16, false, .nili⟩ := rfl 
@[go_sem] theorem T_22 : T 22 = some ⟨.int .u64, 1, 8, true, .n .u64 0⟩ := rfl 
@[go_sem] theorem T_23 : T 23 = some ⟨.slice 62, 1, 24, true, .nils⟩ := rfl 
@[go_sem] theorem T_24 : T 24 = some ⟨.other, 1, 8, true, .nilf⟩ := rfl 
@[go_sem] theorem T_25 : T 25 = some ⟨.array 4 22, 4, 32, true, .agg [.n .u64 0, .n .u64 0, .n .u64 0, .n .u64 0]⟩ := rfl 
@[go_sem] theorem T_26 : T 26 = some ⟨.struct [(0, 22), (1, 22)], 2, 16, true, .agg [.n .u64 0, .n .u64 0]⟩ := rfl 
@[go_sem] theorem T_27 : T 27 = some ⟨.struct [(0, 22), (1, 22)], 2, 16, true, .agg [.n .u64 0, .n .u64 0]⟩ := rfl 
@[go_sem] theorem T_28 : T 28 = some ⟨.struct [(0, 27), (2, 27)], 4, 32, true, .agg [.n .u64 0, .n .u64 0, .n .u64 0, .n .u64 0]⟩ := rfl 
@[go_sem] theorem T_29 : T 29 = some ⟨.struct [(0, 27), (2, 27)], 4, 32, true, .agg [.n .u64 0, .n .u64 0, .n .u64 0, .n .u64 0]⟩ := rfl 
@[go_sem] theorem T_30 : T 30 = some ⟨.int .u32, 1, 4, true, .n .u32 0⟩ := rfl 
@[go_sem] theorem T_31 : T 31 = some ⟨.array 2 30, 2, 8, true, .agg [.n .u32 0, .n .u32 0]⟩ := rfl 
@[go_sem] theorem T_32 : T 32 = some ⟨.struct [(0, 27), (2, 31), (4, 4)], 5, 32, true, .agg [.n .u64 0, .n .u64 0, .n .u32 0, .n .u32 0, .b false]⟩ := rfl 
@[go_sem] theorem T_33 : T 33 = some ⟨.struct [(0, 27), (2, 31), (4, 4)], 5, 32, true, .agg [.n .u64 0, .n .u64 0, .n .u32 0, .n .u32 0, .b false]⟩ := rfl 
@[go_sem] theorem T_34 : T 34 = some ⟨.struct [(0, 3), (1, 22), (2, 25), (6, 29), (10, 33)], 15, 112, true, .agg [.z 0, .n .u64 0, .n .u64 0, .n .u64 0, .n .u64 0, .n .u64 0, .n .u64 0, .n .u64 0, .n .u64 0, .n .u64 0, .n .u64 0, .n .u64 0, .n .u32 0, .n .u32 0, .b false]⟩ := rfl 
@[go_sem] theorem T_35 : T 35 = some ⟨.struct [(0, 3), (1, 22), (2, 25), (6, 29), (10, 33)], 15, 112, true, .agg [.z 0, .n .u64 0, .n .u64 0, .n .u64 0, .n .u64 0, .n .u64 0, .n .u64 0, .n .u64 0, .n .u64 0, .n .u64 0, .n .u64 0, .n .u64 0, .n .u32 0, .n .u32 0, .b false]⟩ := rfl 
@[go_sem] theorem T_36 : T 36 = some ⟨.int .i64, 1, 8, true, .z 0⟩ := rfl 
@[go_sem] theorem T_38 : T 38 = some ⟨.other, 1, 8, true, .nilf⟩ := rfl 
@[go_sem] theorem T_39 : T 39 = some ⟨.ptr 135, 1, 8, true, .nilp⟩ := rfl 
@[go_sem] theorem T_41 : T 41 = some ⟨.other, 1, 8, true, .nilf⟩ := rfl 
@[go_sem] theorem T_42 : T 42 = some ⟨.struct [(0, 22), (1, 22)], 2, 16, true, .agg [.n .u64 0, .n .u64 0]⟩ := rfl 
@[go_sem] theorem T_43 : T 43 = some ⟨.other, 1, 8, true, .nilf⟩ := rfl 
@[go_sem] theorem T_45 : T 45 = some ⟨.other, 1, 8, true, .nilf⟩ := rfl 
@[go_sem] theorem T_46 : T 46 = some ⟨.other, 1, 8, true, .nilf⟩ := rfl 
@[go_sem] theorem T_47 : T 47 = some ⟨.ptr 50, 1, 8, true, .nilp⟩ := rfl 
@[go_sem] theorem T_48 : T 48 = some ⟨.other, 1, 8, true, .nilf⟩ := rfl 
@[go_sem] theorem T_49 : T 49 = some ⟨.struct [(0, 35), (15, 27), (17, 3), (18, 27)], 20, 152, true, .agg [.z 0, .n .u64 0, .n .u64 0, .n .u64 0, .n .u64 0, .n .u64 0, .n .u64 0, .n .u64 0, .n .u64 0, .n .u64 0, .n .u64 0, .n .u64 0, .n .u32 0, .n .u32 0, .b false, .n .u64 0, .n .u64 0, .z 0, .n .u64 0, .n .u64 0]⟩ := rfl 
@[go_sem] theorem T_50 : T 50 = some ⟨.struct [(0, 35), (15, 27), (17, 3), (18, 27)], 20, 152, true, .agg [.z 0, .n .u64 0, .n .u64 0, .n .u64 0, .n .u64 0, .n .u64 0, .n .u64 0, .n .u64 0, .n .u64 0, .n .u64 0, .n .u64 0, .n .u64 0, .n .u32 0, .n .u32 0, .b false, .n .u64 0, .n .u64 0, .z 0, .n .u64 0, .n .u64 0]⟩ := rfl 
@[go_sem] theorem T_51 : T 51 = some ⟨.other, 1, 8, true, .nilf⟩ := rfl 
@[go_sem] theorem T_52 : T 52 = some ⟨.array 4 22, 4, 32, true, .agg [.n .u64 0, .n .u64 0, .n .u64 0, .n .u64 0]⟩ := rfl 
@[go_sem] theorem T_53 : T 53 = some ⟨.struct [(0, 42), (2, 42)], 4, 32, true, .agg [.n .u64 0, .n .u64 0, .n .u64 0, .n .u64 0]⟩ := rfl 
@[go_sem] theorem T_54 : T 54 = some ⟨.struct [(0, 42), (2, 42)], 4, 32, true, .agg [.n .u64 0, .n .u64 0, .n .u64 0, .n .u64 0]⟩ := rfl 
@[go_sem] theorem T_55 : T 55 = some ⟨.array 2 30, 2, 8, true, .agg [.n .u32 0, .n .u32 0]⟩ := rfl 
@[go_sem] theorem T_56 : T 56 = some ⟨.struct [(0, 42), (2, 55), (4, 4)], 5, 32, true, .agg [.n .u64 0, .n .u64 0, .n .u32 0, .n .u32 0, .b false]⟩ := rfl 
@[go_sem] theorem T_57 : T 57 = some ⟨.struct [(0, 42), (2, 55), (4, 4)], 5, 32, true, .agg [.n .u64 0, .n .u64 0, .n .u32 0, .n .u32 0, .b false]⟩ := rfl 
@[go_sem] theorem T_58 : T 58 = some ⟨.struct [(0, 3), (1, 22), (2, 52), (6, 54), (10, 57)], 15, 112, true, .agg [.z 0, .n .u64 0, .n .u64 0, .n .u64 0, .n .u64 0, .n .u64 0, .n .u64 0, .n .u64 0, .n .u64 0, .n .u64 0, .n .u64 0, .n .u64 0, .n .u32 0, .n .u32 0, .b false]⟩ := rfl 
@[go_sem] theorem T_59 : T 59 = some ⟨.struct [(0, 3), (1, 22), (2, 52), (6, 54), (10, 57)], 15, 112, true, .agg [.z 0, .n .u64 0, .n .u64 0, .n .u64 0, .n .u64 0, .n .u64 0, .n .u64 0, .n .u64 0, .n .u64 0, .n .u64 0, .n .u64 0, .n .u64 0, .n .u32 0, .n .u32 0, .b false]⟩ := rfl 
@[go_sem] theorem T_60 : T 60 = some ⟨.other, 1, 8, true, .nilf⟩ := rfl 
@[go_sem] theorem T_61 : T 61 = some ⟨.struct [(0, 3), (1, 42)], 3, 24, true, .agg [.z 0, .n .u64 0, .n .u64 0]⟩ := rfl 
@[go_sem] theorem T_62 : T 62 = some ⟨.struct [(0, 3), (1, 42)], 3, 24, true, .agg [.z 0, .n .u64 0, .n .u64 0]⟩ := rfl 
@[go_sem] theorem T_64 : T 64 = some ⟨.other, 1, 8, true, .nilf⟩ := rfl 
@[go_sem] theorem T_65 : T 65 = some ⟨.other, 1, 8, true, .nilf⟩ := rfl 
@[go_sem] theorem T_66 : T 66 = some ⟨.other, 1, 8, true, .nilf⟩ := rfl 
@[go_sem] theorem T_67 : T 67 = some ⟨.other, 1, 8, true, .nilf⟩ := rfl 
@[go_sem] theorem T_68 : T 68 = some ⟨.other, 1, 8, true, .nilf⟩ := rfl 
@[go_sem] theorem T_69 : T 69 = some ⟨.slice 22, 1, 24, true, .nils⟩ := rfl 
@[go_sem] theorem T_70 : T 70 = some ⟨.other, 1, 8, true, .nilf⟩ := rfl 
@[go_sem] theorem T_71 : T 71 = some ⟨.other, 1, 8, true, .nilf⟩ := rfl 
@[go_sem] theorem T_72 : T 72 = some ⟨.other, 1, 8, true, .nilf⟩ := rfl 
@[go_sem] theorem T_73 : T 73 = some ⟨.other, 1, 8, true, .nilf⟩ := rfl 
@[go_sem] theorem T_75 : T 75 = some ⟨.other, 1, 8, true, .nilf⟩ := rfl 
@[go_sem] theorem T_76 : T 76 = some ⟨.other, 1, 8, true, .nilf⟩ := rfl 
@[go_sem] theorem T_78 : T 78 = some ⟨.other, 1, 8, true, .nilf⟩ := rfl 
@[go_sem] theorem T_79 : T 79 = some ⟨.other, 1, 8, true, .nilf⟩ := rfl 
@[go_sem] theorem T_80 : T 80 = some ⟨.other, 1, 8, true, .nilf⟩ := rfl 
@[go_sem] theorem T_81 : T 81 = some ⟨.other, 1, 8, true, .nilf⟩ := rfl 
@[go_sem] theorem T_82 : T 82 = some ⟨.other, 1, 8, true, .nilf⟩ := rfl 
@[go_sem] theorem T_83 : T 83 = some ⟨.struct [(0, 42), (2, 42)], 4, 32, true, .agg [.n .u64 0, .n .u64 0, .n .u64 0, .n .u64 0]⟩ := rfl 
@[go_sem] theorem T_84 : T 84 = some ⟨.struct [(0, 42), (2, 42)], 4, 32, true, .agg [.n .u64 0, .n .u64 0, .n .u64 0, .n .u64 0]⟩ := rfl 
@[go_sem] theorem T_85 : T 85 = some ⟨.slice 90, 1, 24, true, .nils⟩ := rfl 
@[go_sem] theorem T_86 : T 86 = some ⟨.ptr 155, 1, 8, true, .nilp⟩ := rfl 
@[go_sem] theorem T_88 : T 88 = some ⟨.other, 1, 8, true, .nilf⟩ := rfl 
@[go_sem] theorem T_89 : T 89 = some ⟨.struct [(0, 3), (1, 3), (2, 42)], 4, 32, true, .agg [.z 0, .z 0, .n .u64 0, .n .u64 0]⟩ := rfl 
@[go_sem] theorem T_90 : T 90 = some ⟨.struct [(0, 3), (1, 3), (2, 42)], 4, 32, true, .agg [.z 0, .z 0, .n .u64 0, .n .u64 0]⟩ := rfl 
@[go_sem] theorem T_91 : T 91 = some ⟨.other, 1, 8, true, .nilf⟩ := rfl 
@[go_sem] theorem T_92 : T 92 = some ⟨.other, 1, 8, true, .nilf⟩ := rfl 
@[go_sem] theorem T_93 : T 93 = some ⟨.other, 1, 8, true, .nilf⟩ := rfl 
@[go_sem] theorem T_94 : T 94 = some ⟨.other, 1, 8, true, .nilf⟩ := rfl 
@[go_sem] theorem T_95 : T 95 = some ⟨.other, 1, 8, true, .nilf⟩ := rfl 
@[go_sem] theorem T_96 : T 96 = some ⟨.slice 5, 1, 24, true, .nils⟩ := rfl 
@[go_sem] theorem T_98 : T 98 = some ⟨.other, 1, 8, true, .nilf⟩ := rfl 
@[go_sem] theorem T_99 : T 99 = some ⟨.other, 1, 8, true, .nilf⟩ := rfl 
@[go_sem] theorem T_100 : T 100 = some ⟨.other, 1, 8, true, .nilf⟩ := rfl 
@[go_sem] theorem T_101 : T 101 = some ⟨.ptr 103, 1, 8, true, .nilp⟩ := rfl 
@[go_sem] theorem T_102 : T 102 = some ⟨.struct [(0, 47), (1, 27)], 3, 24, true, .agg [.nilp, .n .u64 0, .n .u64 0]⟩ := rfl 
@[go_sem] theorem T_103 : T 103 = some ⟨.struct [(0, 47), (1, 27)], 3, 24, true, .agg [.nilp, .n .u64 0, .n .u64 0]⟩ := rfl 
@[go_sem] theorem T_105 : T 105 = some ⟨.other, 1, 8, true, .nilf⟩ := rfl 
@[go_sem] theorem T_106 : T 106 = some ⟨.other, 1, 8, true, .nilf⟩ := rfl 
@[go_sem] theorem T_107 : T 107 = some ⟨.other, 1, 8, true, .nilf⟩ := rfl 
@[go_sem] theorem T_108 : T 108 = some ⟨.other, 1, 8, true, .nilf⟩ := rfl 
@[go_sem] theorem T_109 : T 109 = some ⟨.other, 1, 8, true, .nilf⟩ := rfl 
@[go_sem] theorem T_111 : T 111 = some ⟨.other, 1, 8, true, .nilf⟩ := rfl 
@[go_sem] theorem T_112 : T 112 = some ⟨.other, 1, 8, true, .nilf⟩ := rfl 
@[go_sem] theorem T_114 : T 114 = some ⟨.other, 1, 8, true, .nilf⟩ := rfl 
@[go_sem] theorem T_115 : T 115 = some ⟨.other, 1, 8, true, .nilf⟩ := rfl 
@[go_sem] theorem T_116 : T 116 = some ⟨.array 2 22, 2, 16, true, .agg [.n .u64 0, .n .u64 0]⟩ := rfl 
@[go_sem] theorem T_117 : T 117 = some ⟨.other, 1, 8, true, .nilf⟩ := rfl 
@[go_sem] theorem T_119 : T 119 = some ⟨.other, 1, 8, true, .nilf⟩ := rfl 
@[go_sem] theorem T_120 : T 120 = some ⟨.slice 3, 1, 24, true, .nils⟩ := rfl 
@[go_sem] theorem T_122 : T 122 = some ⟨.other, 1, 8, true, .nilf⟩ := rfl 
@[go_sem] theorem T_123 : T 123 = some ⟨.other, 1, 8, true, .nilf⟩ := rfl 
@[go_sem] theorem T_124 : T 124 = some ⟨.other, 1, 8, true, .nilf⟩ := rfl 
@[go_sem] theorem T_125 : T 125 = some ⟨.other, 1, 8, true, .nilf⟩ := rfl 
@[go_sem] theorem T_126 : T 126 = some ⟨.other, 1, 8, true, .nilf⟩ := rfl 
@[go_sem] theorem T_127 : T 127 = some ⟨.other, 1, 8, true, .nilf⟩ := rfl 
@[go_sem] theorem T_128 : T 128 = some ⟨.other, 1, 8, true, .nilf⟩ := rfl 
@[go_sem] theorem T_129 : T 129 = some ⟨.other, 1, 8, true, .nilf⟩ := rfl 
@[go_sem] theorem T_130 : T 130 = some ⟨.other, 1, 8, true, .nilf⟩ := rfl 
@[go_sem] theorem T_131 : T 131 = some ⟨.other, 1, 8, true, .nilf⟩ := rfl 
@[go_sem] theorem T_132 : T 132 = some ⟨.other, 1, 8, true, .nilf⟩ := rfl 
@[go_sem] theorem T_133 : T 133 = some ⟨.array 8 22, 8, 64, true, .agg [.n .u64 0, .n .u64 0, .n .u64 0, .n .u64 0, .n .u64 0, .n .u64 0, .n .u64 0, .n .u64 0]⟩ := rfl 
@[go_sem] theorem T_134 : T 134 = some ⟨.struct [(0, 3), (1, 22), (2, 42), (4, 133), (12, 69), (13, 59)], 28, 232, true, .agg [.z 0, .n .u64 0, .n .u64 0, .n .u64 0, .n .u64 0, .n .u64 0, .n .u64 0, .n .u64 0, .n .u64 0, .n .u64 0, .n .u64 0, .n .u64 0, .nils, .z 0, .n .u64 0, .n .u64 0, .n .u64 0, .n .u64 0, .n .u64 0, .n .u64 0, .n .u64 0, .n .u64 0, .n .u64 0, .n .u64 0, .n .u64 0, .n .u32 0, .n .u32 0, .b false]⟩ := rfl 
@[go_sem] theorem T_135 : T 135 = some ⟨.struct [(0, 3), (1, 22), (2, 42), (4, 133), (12, 69), (13, 59)], 28, 232, true, .agg [.z 0, .n .u64 0, .n .u64 0, .n .u64 0, .n .u64 0, .n .u64 0, .n .u64 0, .n .u64 0, .n .u64 0, .n .u64 0, .n .u64 0, .n .u64 0, .nils, .z 0, .n .u64 0, .n .u64 0, .n .u64 0, .n .u64 0, .n .u64 0, .n .u64 0, .n .u64 0, .n .u64 0, .n .u64 0, .n .u64 0, .n .u64 0, .n .u32 0, .n .u32 0, .b false]⟩ := rfl 
@[go_sem] theorem T_136 : T 136 = some ⟨.other, 1, 8, true, .nilf⟩ := rfl 
@[go_sem] theorem T_137 : T 137 = some ⟨.other, 1, 8, true, .nilf⟩ := rfl 
@[go_sem] theorem T_138 : T 138 = some ⟨.other, 1, 8, true, .nilf⟩ := rfl 
@[go_sem] theorem T_139 : T 139 = some ⟨.other, 1, 8, true, .nilf⟩ := rfl 
@[go_sem] theorem T_140 : T 140 = some ⟨.other, 1, 8, true, .nilf⟩ := rfl 
@[go_sem] theorem T_141 : T 141 = some ⟨.other, 1, 8, true, .nilf⟩ := rfl 
@[go_sem] theorem T_142 : T 142 = some ⟨.other, 1, 8, true, .nilf⟩ := rfl 
@[go_sem] theorem T_143 : T 143 = some ⟨.other, 1, 8, true, .nilf⟩ := rfl 
@[go_sem] theorem T_145 : T 145 = some ⟨.other, 1, 8, true, .nilf⟩ := rfl 
@[go_sem] theorem T_147 : T 147 = some ⟨.other, 1, 8, true, .nilf⟩ := rfl 
@[go_sem] theorem T_148 : T 148 = some ⟨.other, 1, 8, true, .nilf⟩ := rfl 
@[go_sem] theorem T_149 : T 149 = some ⟨.iface, 1, 16, false, .nili⟩ := rfl 
@[go_sem] theorem T_150 : T 150 = some ⟨.iface, 1, 16, false, .nili⟩ := rfl 
@[go_sem] theorem T_151 : T 151 = some ⟨.other, 1, 8, true, .nilf⟩ := rfl 
@[go_sem] theorem T_152 : T 152 = some ⟨.other, 1, 8, true, .nilf⟩ := rfl 
@[go_sem] theorem T_153 : T 153 = some ⟨.other, 1, 8, true, .nilf⟩ := rfl 
@[go_sem] theorem T_154 : T 154 = some ⟨.struct [(0, 39), (1, 42)], 3, 24, true, .agg [.nilp, .n .u64 0, .n .u64 0]⟩ := rfl 
@[go_sem] theorem T_155 : T 155 = some ⟨.struct [(0, 39), (1, 42)], 3, 24, true, .agg [.nilp, .n .u64 0, .n .u64 0]⟩ := rfl 
@[go_sem] theorem T_156 : T 156 = some ⟨.other, 1, 8, true, .nilf⟩ := rfl 
@[go_sem] theorem T_157 : T 157 = some ⟨.other, 1, 8, true, .nilf⟩ := rfl 
@[go_sem] theorem T_159 : T 159 = some ⟨.other, 1, 8, true, .nilf⟩ := rfl 
@[go_sem] theorem T_160 : T 160 = some ⟨.other, 1, 8, true, .nilf⟩ := rfl 
@[go_sem] theorem T_161 : T 161 = some ⟨.other, 1, 8, true, .nilf⟩ := rfl 
@[go_sem] theorem T_162 : T 162 = some ⟨.struct [(0, 27), (2, 27)], 4, 32, true, .agg [.n .u64 0, .n .u64 0, .n .u64 0, .n .u64 0]⟩ := rfl 
@[go_sem] theorem T_163 : T 163 = some ⟨.struct [(0, 27), (2, 27)], 4, 32, true, .agg [.n .u64 0, .n .u64 0, .n .u64 0, .n .u64 0]⟩ := rfl 
@[go_sem] theorem T_164 : T 164 = some ⟨.other, 1, 8, true, .nilf⟩ := rfl 
@[go_sem] theorem T_165 : T 165 = some ⟨.other, 1, 8, true, .nilf⟩ := rfl 
@[go_sem] theorem T_166 : T 166 = some ⟨.other, 1, 8, true, .nilf⟩ := rfl 
@[go_sem] theorem T_167 : T 167 = some ⟨.other, 1, 8, true, .nilf⟩ := rfl 
@[go_sem] theorem T_168 : T 168 = some ⟨.struct [(0, 3), (1, 167)], 2, 16, true, .agg [.z 0, .nilf]⟩ := rfl 
@[go_sem] theorem T_169 : T 169 = some ⟨.struct [(0, 3), (1, 167)], 2, 16, true, .agg [.z 0, .nilf]⟩ := rfl 
@[go_sem] theorem T_170 : T 170 = some ⟨.array 4 169, 8, 64, true, .agg [.z 0, .nilf, .z 0, .nilf, .z 0, .nilf, .z 0, .nilf]⟩ := rfl 
@[go_sem] theorem T_171 : T 171 = some ⟨.other, 1, 8, true, .nilf⟩ := rfl 
@[go_sem] theorem T_173 : T 173 = some ⟨.other, 1, 8, true, .nilf⟩ := rfl 
@[go_sem] theorem T_174 : T 174 = some ⟨.other, 1, 8, true, .nilf⟩ := rfl 
@[go_sem] theorem T_175 : T 175 = some ⟨.other, 1, 8, true, .nilf⟩ := rfl 
@[go_sem] theorem T_176 : T 176 = some ⟨.other, 1, 8, true, .nilf⟩ := rfl 
@[go_sem] theorem T_177 : T 177 = some ⟨.other, 1, 8, true, .nilf⟩ := rfl 
@[go_sem] theorem T_178 : T 178 = some ⟨.other, 1, 8, true, .nilf⟩ := rfl 
@[go_sem] theorem T_179 : T 179 = some ⟨.other, 1, 8, true, .nilf⟩ := rfl 
@[go_sem] theorem T_180 : T 180 = some ⟨.other, 1, 8, true, .nilf⟩ := rfl 
@[go_sem] theorem T_181 : T 181 = some ⟨.other, 1, 8, true, .nilf⟩ := rfl 
@[go_sem] theorem T_182 : T 182 = some ⟨.other, 1, 8, true, .nilf⟩ := rfl 
@[go_sem] theorem T_183 : T 183 = some ⟨.other, 1, 8, true, .nilf⟩ := rfl 
@[go_sem] theorem T_184 : T 184 = some ⟨.other, 1, 8, true, .nilf⟩ := rfl 
@[go_sem] theorem T_185 : T 185 = some ⟨.other, 1, 8, true, .nilf⟩ := rfl 
@[go_sem] theorem T_186 : T 186 = some ⟨.struct [], 0, 0, true, .agg []⟩ := rfl 
@[go_sem] theorem T_187 : T 187 = some ⟨.struct [], 0, 0, true, .agg []⟩ := rfl 
@[go_sem] theorem T_188 : T 188 = some ⟨.struct [], 0, 0, true, .agg []⟩ := rfl 
@[go_sem] theorem T_189 : T 189 = some ⟨.struct [], 0, 0, true, .agg []⟩ := rfl 
@[go_sem] theorem T_190 : T 190 = some ⟨.struct [], 0, 0, true, .agg []⟩ := rfl 
@[go_sem] theorem T_191 : T 191 = some ⟨.other, 1, 8, true, .nilf⟩ := rfl 
@[go_sem] theorem T_192 : T 192 = some ⟨.other, 1, 8, true, .nilf⟩ := rfl 
@[go_sem] theorem T_194 : T 194 = some ⟨.other, 1, 8, true, .nilf⟩ := rfl 
@[go_sem] theorem T_195 : T 195 = some ⟨.other, 1, 8, true, .nilf⟩ := rfl 
@[go_sem] theorem T_196 : T 196 = some ⟨.other, 1, 8, true, .nilf⟩ := rfl 
@[go_sem] theorem T_197 : T 197 = some ⟨.int .u64, 1, 8, true, .n .u64 0⟩ := rfl 
@[go_sem] theorem T_198 : T 198 = some ⟨.other, 1, 8, true, .nilf⟩ := rfl 
@[go_sem] theorem T_199 : T 199 = some ⟨.other, 1, 8, true, .nilf⟩ := rfl 
@[go_sem] theorem T_200 : T 200 = some ⟨.array 4 30, 4, 16, true, .agg [.n .u32 0, .n .u32 0, .n .u32 0, .n .u32 0]⟩ := rfl 
@[go_sem] theorem T_201 : T 201 = some ⟨.other, 1, 8, true, .nilf⟩ := rfl 
@[go_sem] theorem T_202 : T 202 = some ⟨.other, 1, 8, true, .nilf⟩ := rfl 
@[go_sem] theorem T_203 : T 203 = some ⟨.other, 1, 8, true, .nilf⟩ := rfl 
@[go_sem] theorem T_204 : T 204 = some ⟨.other, 1, 8, true, .nilf⟩ := rfl 
@[go_sem] theorem T_205 : T 205 = some ⟨.iface, 1, 16, false, .nili⟩ := rfl 
@[go_sem] theorem T_206 : T 206 = some ⟨.iface, 1, 16, false, .nili⟩ := rfl 
@[go_sem] theorem T_207 : T 207 = some ⟨.other, 1, 8, true, .nilf⟩ := rfl 
@[go_sem] theorem T_208 : T 208 = some ⟨.other, 1, 8, true, .nilf⟩ := rfl 
@[go_sem] theorem T_209 : T 209 = some ⟨.other, 1, 8, true, .nilf⟩ := rfl 
@[go_sem] theorem T_210 : T 210 = some ⟨.other, 1, 8, true, .nilf⟩ := rfl 
@[go_sem] theorem T_211 : T 211 = some ⟨.struct [(0, 3), (1, 22), (2, 22)], 3, 24, true, .agg [.z 0, .n .u64 0, .n .u64 0]⟩ := rfl 
@[go_sem] theorem T_212 : T 212 = some ⟨.struct [(0, 3), (1, 22), (2, 22)], 3, 24, true, .agg [.z 0, .n .u64 0, .n .u64 0]⟩ := rfl 
@[go_sem] theorem T_213 : T 213 = some ⟨.array 3 212, 9, 72, true, .agg [.z 0, .n .u64 0, .n .u64 0, .z 0, .n .u64 0, .n .u64 0, .z 0, .n .u64 0, .n .u64 0]⟩ := rfl 
@[go_sem] theorem T_214 : T 214 = some ⟨.other, 1, 8, true, .nilf⟩ := rfl 
@[go_sem] theorem T_215 : T 215 = some ⟨.ptr 309, 1, 8, true, .nilp⟩ := rfl 
@[go_sem] theorem T_216 : T 216 = some ⟨.other, 1, 8, true, .nilf⟩ := rfl 
@[go_sem] theorem T_225 : T 225 = some ⟨.ptr 5, 1, 8, true, .nilp⟩ := rfl 
@[go_sem] theorem T_230 : T 230 = some ⟨.other, 1, 8, true, .nilf⟩ := rfl 
@[go_sem] theorem T_231 : T 231 = some ⟨.other, 1, 8, true, .nilf⟩ := rfl 
@[go_sem] theorem T_232 : T 232 = some ⟨.other, 1, 8, true, .nilf⟩ := rfl 
@[go_sem] theorem T_233 : T 233 = some ⟨.other, 1, 8, true, .nilf⟩ := rfl 
@[go_sem] theorem T_235 : T 235 = some ⟨.other, 1, 8, true, .nilf⟩ := rfl 
@[go_sem] theorem T_236 : T 236 = some ⟨.other, 1, 8, true, .nilf⟩ := rfl 
@[go_sem] theorem T_237 : T 237 = some ⟨.other, 1, 8, true, .nilf⟩ := rfl 
@[go_sem] theorem T_238 : T 238 = some ⟨.other, 1, 8, true, .nilf⟩ := rfl 
@[go_sem] theorem T_239 : T 239 = some ⟨.other, 1, 8, true, .nilf⟩ := rfl 
@[go_sem] theorem T_240 : T 240 = some ⟨.slice 22, 1, 24, true, .nils⟩ := rfl 
@[go_sem] theorem T_241 : T 241 = some ⟨.other, 1, 8, true, .nilf⟩ := rfl 
@[go_sem] theorem T_242 : T 242 = some ⟨.other, 1, 8, true, .nilf⟩ := rfl 
@[go_sem] theorem T_243 : T 243 = some ⟨.other, 1, 8, true, .nilf⟩ := rfl 
@[go_sem] theorem T_244 : T 244 = some ⟨.other, 1, 8, true, .nilf⟩ := rfl 
@[go_sem] theorem T_246 : T 246 = some ⟨.other, 1, 8, true, .nilf⟩ := rfl 
@[go_sem] theorem T_247 : T 247 = some ⟨.other, 1, 8, true, .nilf⟩ := rfl 
@[go_sem] theorem T_248 : T 248 = some ⟨.other, 1, 8, true, .nilf⟩ := rfl 
@[go_sem] theorem T_249 : T 249 = some ⟨.other, 1, 8, true, .nilf⟩ := rfl 
@[go_sem] theorem T_250 : T 250 = some ⟨.other, 1, 8, true, .nilf⟩ := rfl 
@[go_sem] theorem T_251 : T 251 = some ⟨.other, 1, 8, true, .nilf⟩ := rfl 
@[go_sem] theorem T_252 : T 252 = some ⟨.slice 4, 1, 24, true, .nils⟩ := rfl 
@[go_sem] theorem T_254 : T 254 = some ⟨.other, 1, 8, true, .nilf⟩ := rfl 
@[go_sem] theorem T_256 : T 256 = some ⟨.other, 1, 8, true, .nilf⟩ := rfl 
@[go_sem] theorem T_257 : T 257 = some ⟨.other, 1, 8, true, .nilf⟩ := rfl 
@[go_sem] theorem T_258 : T 258 = some ⟨.other, 1, 8, true, .nilf⟩ := rfl 
@[go_sem] theorem T_259 : T 259 = some ⟨.other, 1, 8, true, .nilf⟩ := rfl 
@[go_sem] theorem T_260 : T 260 = some ⟨.other, 1, 8, true, .nilf⟩ := rfl 
@[go_sem] theorem T_261 : T 261 = some ⟨.other, 1, 8, true, .nilf⟩ := rfl 
@[go_sem] theorem T_262 : T 262 = some ⟨.other, 1, 8, true, .nilf⟩ := rfl 
@[go_sem] theorem T_263 : T 263 = some ⟨.other, 1, 8, true, .nilf⟩ := rfl 
@[go_sem] theorem T_264 : T 264 = some ⟨.other, 1, 8, true, .nilf⟩ := rfl 
@[go_sem] theorem T_265 : T 265 = some ⟨.other, 1, 8, true, .nilf⟩ := rfl 
@[go_sem] theorem T_266 : T 266 = some ⟨.ptr 52, 1, 8, true, .nilp⟩ := rfl 
@[go_sem] theorem T_267 : T 267 = some ⟨.struct [(0, 240), (1, 240), (2, 3), (3, 3)], 4, 64, true, .agg [.nils, .nils, .z 0, .z 0]⟩ := rfl 
@[go_sem] theorem T_268 : T 268 = some ⟨.struct [(0, 240), (1, 240), (2, 3), (3, 3)], 4, 64, true, .agg [.nils, .nils, .z 0, .z 0]⟩ := rfl 
@[go_sem] theorem T_269 : T 269 = some ⟨.other, 1, 8, true, .nilf⟩ := rfl 
@[go_sem] theorem T_271 : T 271 = some ⟨.other, 1, 8, true, .nilf⟩ := rfl 
@[go_sem] theorem T_272 : T 272 = some ⟨.other, 1, 8, true, .nilf⟩ := rfl 
@[go_sem] theorem T_273 : T 273 = some ⟨.other, 1, 8, true, .nilf⟩ := rfl 
@[go_sem] theorem T_274 : T 274 = some ⟨.other, 1, 8, true, .nilf⟩ := rfl 
@[go_sem] theorem T_275 : T 275 = some ⟨.struct [(0, 240), (1, 240)], 2, 48, true, .agg [.nils, .nils]⟩ := rfl 
@[go_sem] theorem T_276 : T 276 = some ⟨.struct [(0, 240), (1, 240)], 2, 48, true, .agg [.nils, .nils]⟩ := rfl 
@[go_sem] theorem T_277 : T 277 = some ⟨.other, 1, 8, true, .nilf⟩ := rfl 
@[go_sem] theorem T_279 : T 279 = some ⟨.other, 1, 8, true, .nilf⟩ := rfl 
@[go_sem] theorem T_280 : T 280 = some ⟨.other, 1, 8, true, .nilf⟩ := rfl 
@[go_sem] theorem T_281 : T 281 = some ⟨.other, 1, 8, true, .nilf⟩ := rfl 
@[go_sem] theorem T_282 : T 282 = some ⟨.other, 1, 8, true, .nilf⟩ := rfl 
@[go_sem] theorem T_283 : T 283 = some ⟨.other, 1, 8, true, .nilf⟩ := rfl 
@[go_sem] theorem T_284 : T 284 = some ⟨.struct [(0, 42), (2, 42)], 4, 32, true, .agg [.n .u64 0, .n .u64 0, .n .u64 0, .n .u64 0]⟩ := rfl 
@[go_sem] theorem T_285 : T 285 = some ⟨.struct [(0, 42), (2, 42)], 4, 32, true, .agg [.n .u64 0, .n .u64 0, .n .u64 0, .n .u64 0]⟩ := rfl 
@[go_sem] theorem T_286 : T 286 = some ⟨.other, 1, 8, true, .nilf⟩ := rfl 
@[go_sem] theorem T_287 : T 287 = some ⟨.other, 1, 8, true, .nilf⟩ := rfl 
@[go_sem] theorem T_288 : T 288 = some ⟨.other, 1, 8, true, .nilf⟩ := rfl 
@[go_sem] theorem T_289 : T 289 = some ⟨.other, 1, 8, true, .nilf⟩ := rfl 
@[go_sem] theorem T_290 : T 290 = some ⟨.other, 1, 8, true, .nilf⟩ := rfl 
@[go_sem] theorem T_291 : T 291 = some ⟨.other, 1, 8, true, .nilf⟩ := rfl 
@[go_sem] theorem T_292 : T 292 = some ⟨.other, 1, 8, true, .nilf⟩ := rfl 
@[go_sem] theorem T_293 : T 293 = some ⟨.array 4 30, 4, 16, true, .agg [.n .u32 0, .n .u32 0, .n .u32 0, .n .u32 0]⟩ := rfl 
@[go_sem] theorem T_294 : T 294 = some ⟨.other, 1, 8, true, .nilf⟩ := rfl 
@[go_sem] theorem T_295 : T 295 = some ⟨.other, 1, 8, true, .nilf⟩ := rfl 
@[go_sem] theorem T_296 : T 296 = some ⟨.other, 1, 8, true, .nilf⟩ := rfl 
@[go_sem] theorem T_297 : T 297 = some ⟨.map 4 22, 1, 8, true, .nilm⟩ := rfl 
@[go_sem] theorem T_299 : T 299 = some ⟨.other, 1, 8, true, .nilf⟩ := rfl 
@[go_sem] theorem T_300 : T 300 = some ⟨.slice 305, 1, 24, true, .nils⟩ := rfl 
@[go_sem] theorem T_302 : T 302 = some ⟨.other, 1, 8, true, .nilf⟩ := rfl 
@[go_sem] theorem T_303 : T 303 = some ⟨.other, 1, 8, true, .nilf⟩ := rfl 
@[go_sem] theorem T_304 : T 304 = some ⟨.struct [(0, 303), (1, 303)], 2, 16, true, .agg [.nilf, .nilf]⟩ := rfl 
@[go_sem] theorem T_305 : T 305 = some ⟨.struct [(0, 303), (1, 303)], 2, 16, true, .agg [.nilf, .nilf]⟩ := rfl 
@[go_sem] theorem T_306 : T 306 = some ⟨.other, 1, 8, true, .nilf⟩ := rfl 
@[go_sem] theorem T_307 : T 307 = some ⟨.other, 1, 8, true, .nilf⟩ := rfl 
@[go_sem] theorem T_308 : T 308 = some ⟨.struct [(0, 9)], 1, 16, true, .agg [.s ByteArray.empty]⟩ := rfl 
@[go_sem] theorem T_309 : T 309 = some ⟨.struct [(0, 9)], 1, 16, true, .agg [.s ByteArray.empty]⟩ := rfl 
theorem tok_1 : TOk Tryz.prog 1 ⟨.other, 1, 8, true, .nilf⟩ := tok (inf := Tryz.t1) Tryz.type1 rfl Tryz.underlying1 (⟨fun _ => nofun, fun _ _ => nofun⟩) rfl rfl rfl
theorem tok_2 : TOk Tryz.prog 2 ⟨.int .i64, 1, 8, true, .z 0⟩ := tok (inf := Tryz.t2) Tryz.type2 rfl Tryz.underlying2 (rfl) rfl rfl rfl
theorem tok_3 : TOk Tryz.prog 3 ⟨.int .i64, 1, 8, true, .z 0⟩ := tok (inf := Tryz.t3) Tryz.type3 rfl Tryz.underlying3 (rfl) rfl rfl rfl
theorem tok_4 : TOk Tryz.prog 4 ⟨.bool, 1, 1, true, .b false⟩ := tok (inf := Tryz.t4) Tryz.type4 rfl Tryz.underlying4 (rfl) rfl rfl rfl
theorem tok_5 : TOk Tryz.prog 5 ⟨.int .u8, 1, 1, true, .n .u8 0⟩ := tok (inf := Tryz.t5) Tryz.type5 rfl Tryz.underlying5 (rfl) rfl rfl rfl
theorem tok_9 : TOk Tryz.prog 9 ⟨.string, 1, 16, true, .s ByteArray.empty⟩ := tok (inf := Tryz.t9) Tryz.type9 rfl Tryz.underlying9 (rfl) rfl rfl rfl
theorem tok_12 : TOk Tryz.prog 12 ⟨.int .u64, 1, 8, true, .n .u64 0⟩ := tok (inf := Tryz.t12) Tryz.type12 rfl Tryz.underlying12 (rfl) rfl rfl rfl
theorem tok_20 : TOk Tryz.prog 20 ⟨.iface, 1, 16, false, .nili⟩ := tok (inf := Tryz.t20) Tryz.type20 rfl Tryz.underlying20 (⟨_, rfl⟩) rfl rfl rfl
theorem tok_22 : TOk Tryz.prog 22 ⟨.int .u64, 1, 8, true, .n .u64 0⟩ := tok (inf := Tryz.t22) Tryz.type22 rfl Tryz.underlying22 (rfl) rfl rfl rfl
theorem tok_23 : TOk Tryz.prog 23 ⟨.slice 62, 1, 24, true, .nils⟩ := tok (inf := Tryz.t23) Tryz.type23 rfl Tryz.underlying23 (rfl) rfl rfl rfl
theorem tok_24 : TOk Tryz.prog 24 ⟨.other, 1, 8, true, .nilf⟩ := tok (inf := Tryz.t24) Tryz.type24 rfl Tryz.underlying24 (⟨fun _ => nofun, fun _ _ => nofun⟩) rfl rfl rfl
theorem tok_25 : TOk Tryz.prog 25 ⟨.array 4 22, 4, 32, true, .agg [.n .u64 0, .n .u64 0, .n .u64 0, .n .u64 0]⟩ := tok (inf := Tryz.t25) Tryz.type25 rfl Tryz.underlying25 (rfl) rfl rfl rfl
theorem tok_26 : TOk Tryz.prog 26 ⟨.struct [(0, 22), (1, 22)], 2, 16, true, .agg [.n .u64 0, .n .u64 0]⟩ := tok (inf := Tryz.t26) Tryz.type26 rfl Tryz.underlying26 (fitS rfl ⟨⟨_, Tryz.type22, by decide⟩, ⟨_, Tryz.type22, by decide⟩, trivial⟩) rfl rfl rfl
theorem tok_27 : TOk Tryz.prog 27 ⟨.struct [(0, 22), (1, 22)], 2, 16, true, .agg [.n .u64 0, .n .u64 0]⟩ := tok (inf := Tryz.t27) Tryz.type27 rfl Tryz.underlying27 (fitS rfl ⟨⟨_, Tryz.type22, by decide⟩, ⟨_, Tryz.type22, by decide⟩, trivial⟩) rfl rfl rfl
theorem tok_28 : TOk Tryz.prog 28 ⟨.struct [(0, 27), (2, 27)], 4, 32, true, .agg [.n .u64 0, .n .u64 0, .n .u64 0, .n .u64 0]⟩ := tok (inf := Tryz.t28) Tryz.type28 rfl Tryz.underlying28 (fitS rfl ⟨⟨_, Tryz.type27, by decide⟩, ⟨_, Tryz.type27, by decide⟩, trivial⟩) rfl rfl rfl
theorem tok_29 : TOk Tryz.prog 29 ⟨.struct [(0, 27), (2, 27)], 4, 32, true, .agg [.n .u64 0, .n .u64 0, .n .u64 0, .n .u64 0]⟩ := tok (inf := Tryz.t29) Tryz.type29 rfl Tryz.underlying29 (fitS rfl ⟨⟨_, Tryz.type27, by decide⟩, ⟨_, Tryz.type27, by decide⟩, trivial⟩) rfl rfl rfl
theorem tok_30 : TOk Tryz.prog 30 ⟨.int .u32, 1, 4, true, .n .u32 0⟩ := tok (inf := Tryz.t30) Tryz.type30 rfl Tryz.underlying30 (rfl) rfl rfl rfl
theorem tok_31 : TOk Tryz.prog 31 ⟨.array 2 30, 2, 8, true, .agg [.n .u32 0, .n .u32 0]⟩ := tok (inf := Tryz.t31) Tryz.type31 rfl Tryz.underlying31 (rfl) rfl rfl rfl
theorem tok_32 : TOk Tryz.prog 32 ⟨.struct [(0, 27), (2, 31), (4, 4)], 5, 32, true, .agg [.n .u64 0, .n .u64 0, .n .u32 0, .n .u32 0, .b false]⟩ := tok (inf := Tryz.t32) Tryz.type32 rfl Tryz.underlying32 (fitS rfl ⟨⟨_, Tryz.type27, by decide⟩, ⟨_, Tryz.type31, by decide⟩, ⟨_, Tryz.type4, by decide⟩, trivial⟩) rfl rfl rfl
theorem tok_33 : TOk Tryz.prog 33 ⟨.struct [(0, 27), (2, 31), (4, 4)], 5, 32, true, .agg [.n .u64 0, .n .u64 0, .n .u32 0, .n .u32 0, .b false]⟩ := tok (inf := Tryz.t33) Tryz.type33 rfl Tryz.underlying33 (fitS rfl ⟨⟨_, Tryz.type27, by decide⟩, ⟨_, Tryz.type31, by decide⟩, ⟨_, Tryz.type4, by decide⟩, trivial⟩) rfl rfl rfl
theorem tok_34 : TOk Tryz.prog 34 ⟨.struct [(0, 3), (1, 22), (2, 25), (6, 29), (10, 33)], 15, 112, true, .agg [.z 0, .n .u64 0, .n .u64 0, .n .u64 0, .n .u64 0, .n .u64 0, .n .u64 0, .n .u64 0, .n .u64 0, .n .u64 0, .n .u64 0, .n .u64 0, .n .u32 0, .n .u32 0, .b false]⟩ := tok (inf := Tryz.t34) Tryz.type34 rfl Tryz.underlying34 (fitS rfl ⟨⟨_, Tryz.type3, by decide⟩, ⟨_, Tryz.type22, by decide⟩, ⟨_, Tryz.type25, by decide⟩, ⟨_, Tryz.type29, by decide⟩, ⟨_, Tryz.type33, by decide⟩, trivial⟩) rfl rfl rfl
theorem tok_35 : TOk Tryz.prog 35 ⟨.struct [(0, 3), (1, 22), (2, 25), (6, 29), (10, 33)], 15, 112, true, .agg [.z 0, .n .u64 0, .n .u64 0, .n .u64 0, .n .u64 0, .n .u64 0, .n .u64 0, .n .u64 0, .n .u64 0, .n .u64 0, .n .u64 0, .n .u64 0, .n .u32 0, .n .u32 0, .b false]⟩ := tok (inf := Tryz.t35) Tryz.type35 rfl Tryz.underlying35 (fitS rfl ⟨⟨_, Tryz.type3, by decide⟩, ⟨_, Tryz.type22, by decide⟩, ⟨_, Tryz.type25, by decide⟩, ⟨_, Tryz.type29, by decide⟩, ⟨_, Tryz.type33, by decide⟩, trivial⟩) rfl rfl rfl
theorem tok_36 : TOk Tryz.prog 36 ⟨.int .i64, 1, 8, true, .z 0⟩ := tok (inf := Tryz.t36) Tryz.type36 rfl Tryz.underlying36 (rfl) rfl rfl rfl
theorem tok_38 : TOk Tryz.prog 38 ⟨.other, 1, 8, true, .nilf⟩ := tok (inf := Tryz.t38) Tryz.type38 rfl Tryz.underlying38 (⟨fun _ => nofun, fun _ _ => nofun⟩) rfl rfl rfl
theorem tok_39 : TOk Tryz.prog 39 ⟨.ptr 135, 1, 8, true, .nilp⟩ := tok (inf := Tryz.t39) Tryz.type39 rfl Tryz.underlying39 (rfl) rfl rfl rfl
theorem tok_41 : TOk Tryz.prog 41 ⟨.other, 1, 8, true, .nilf⟩ := tok (inf := Tryz.t41) Tryz.type41 rfl Tryz.underlying41 (⟨fun _ => nofun, fun _ _ => nofun⟩) rfl rfl rfl
theorem tok_42 : TOk Tryz.prog 42 ⟨.struct [(0, 22), (1, 22)], 2, 16, true, .agg [.n .u64 0, .n .u64 0]⟩ := tok (inf := Tryz.t42) Tryz.type42 rfl Tryz.underlying42 (fitS rfl ⟨⟨_, Tryz.type22, by decide⟩, ⟨_, Tryz.type22, by decide⟩, trivial⟩) rfl rfl rfl
theorem tok_43 : TOk Tryz.prog 43 ⟨.other, 1, 8, true, .nilf⟩ := tok (inf := Tryz.t43) Tryz.type43 rfl Tryz.underlying43 (⟨fun _ => nofun, fun _ _ => nofun⟩) rfl rfl rfl
theorem tok_45 : TOk Tryz.prog 45 ⟨.other, 1, 8, true, .nilf⟩ := tok (inf := Tryz.t45) Tryz.type45 rfl Tryz.underlying45 (⟨fun _ => nofun, fun _ _ => nofun⟩) rfl rfl rfl
theorem tok_46 : TOk Tryz.prog 46 ⟨.other, 1, 8, true, .nilf⟩ := tok (inf := Tryz.t46) Tryz.type46 rfl Tryz.underlying46 (⟨fun _ => nofun, fun _ _ => nofun⟩) rfl rfl rfl
theorem tok_47 : TOk Tryz.prog 47 ⟨.ptr 50, 1, 8, true, .nilp⟩ := tok (inf := Tryz.t47) Tryz.type47 rfl Tryz.underlying47 (rfl) rfl rfl rfl
theorem tok_48 : TOk Tryz.prog 48 ⟨.other, 1, 8, true, .nilf⟩ := tok (inf := Tryz.t48) Tryz.type48 rfl Tryz.underlying48 (⟨fun _ => nofun, fun _ _ => nofun⟩) rfl rfl rfl
theorem tok_49 : TOk Tryz.prog 49 ⟨.struct [(0, 35), (15, 27), (17, 3), (18, 27)], 20, 152, true, .agg [.z 0, .n .u64 0, .n .u64 0, .n .u64 0, .n .u64 0, .n .u64 0, .n .u64 0, .n .u64 0, .n .u64 0, .n .u64 0, .n .u64 0, .n .u64 0, .n .u32 0, .n .u32 0, .b false, .n .u64 0, .n .u64 0, .z 0, .n .u64 0, .n .u64 0]⟩ := tok (inf := Tryz.t49) Tryz.type49 rfl Tryz.underlying49 (fitS rfl ⟨⟨_, Tryz.type35, by decide⟩, ⟨_, Tryz.type27, by decide⟩, ⟨_, Tryz.type3, by decide⟩, ⟨_, Tryz.type27, by decide⟩, trivial⟩) rfl rfl rfl
theorem tok_50 : TOk Tryz.prog 50 ⟨.struct [(0, 35), (15, 27), (17, 3), (18, 27)], 20, 152, true, .agg [.z 0, .n .u64 0, .n .u64 0, .n .u64 0, .n .u64 0, .n .u64 0, .n .u64 0, .n .u64 0, .n .u64 0, .n .u64 0, .n .u64 0, .n .u64 0, .n .u32 0, .n .u32 0, .b false, .n .u64 0, .n .u64 0, .z 0, .n .u64 0, .n .u64 0]⟩ := tok (inf := Tryz.t50) Tryz.type50 rfl Tryz.underlying50 (fitS rfl ⟨⟨_, Tryz.type35, by decide⟩, ⟨_, Tryz.type27, by decide⟩, ⟨_, Tryz.type3, by decide⟩, ⟨_, Tryz.type27, by decide⟩, trivial⟩) rfl rfl rfl
theorem tok_51 : TOk Tryz.prog 51 ⟨.other, 1, 8, true, .nilf⟩ := tok (inf := Tryz.t51) Tryz.type51 rfl Tryz.underlying51 (⟨fun _ => nofun, fun _ _ => nofun⟩) rfl rfl rfl
theorem tok_52 : TOk Tryz.prog 52 ⟨.array 4 22, 4, 32, true, .agg [.n .u64 0, .n .u64 0, .n .u64 0, .n .u64 0]⟩ := tok (inf := Tryz.t52) Tryz.type52 rfl Tryz.underlying52 (rfl) rfl rfl rfl
theorem tok_53 : TOk Tryz.prog 53 ⟨.struct [(0, 42), (2, 42)], 4, 32, true, .agg [.n .u64 0, .n .u64 0, .n .u64 0, .n .u64 0]⟩ := tok (inf := Tryz.t53) Tryz.type53 rfl Tryz.underlying53 (fitS rfl ⟨⟨_, Tryz.type42, by decide⟩, ⟨_, Tryz.type42, by decide⟩, trivial⟩) rfl rfl rfl
theorem tok_54 : TOk Tryz.prog 54 ⟨.struct [(0, 42), (2, 42)], 4, 32, true, .agg [.n .u64 0, .n .u64 0, .n .u64 0, .n .u64 0]⟩ := tok (inf := Tryz.t54) Tryz.type54 rfl Tryz.underlying54 (fitS rfl ⟨⟨_, Tryz.type42, by decide⟩, ⟨_, Tryz.type42, by decide⟩, trivial⟩) rfl rfl rfl
theorem tok_55 : TOk Tryz.prog 55 ⟨.array 2 30, 2, 8, true, .agg [.n .u32 0, .n .u32 0]⟩ := tok (inf := Tryz.t55) Tryz.type55 rfl Tryz.underlying55 (rfl) rfl rfl rfl
theorem tok_56 : TOk Tryz.prog 56 ⟨.struct [(0, 42), (2, 55), (4, 4)], 5, 32, true, .agg [.n .u64 0, .n .u64 0, .n .u32 0, .n .u32 0, .b false]⟩ := tok (inf := Tryz.t56) Tryz.type56 rfl Tryz.underlying56 (fitS rfl ⟨⟨_, Tryz.type42, by decide⟩, ⟨_, Tryz.type55, by decide⟩, ⟨_, Tryz.type4, by decide⟩, trivial⟩) rfl rfl rfl
theorem tok_57 : TOk Tryz.prog 57 ⟨.struct [(0, 42), (2, 55), (4, 4)], 5, 32, true, .agg [.n .u64 0, .n .u64 0, .n .u32 0, .n .u32 0, .b false]⟩ := tok (inf := Tryz.t57) Tryz.type57 rfl Tryz.underlying57 (fitS rfl ⟨⟨_, Tryz.type42, by decide⟩, ⟨_, Tryz.type55, by decide⟩, ⟨_, Tryz.type4, by decide⟩, trivial⟩) rfl rfl rfl
theorem tok_58 : TOk Tryz.prog 58 ⟨.struct [(0, 3), (1, 22), (2, 52), (6, 54), (10, 57)], 15, 112, true, .agg [.z 0, .n .u64 0, .n .u64 0, .n .u64 0, .n .u64 0, .n .u64 0, .n .u64 0, .n .u64 0, .n .u64 0, .n .u64 0, .n .u64 0, .n .u64 0, .n .u32 0, .n .u32 0, .b false]⟩ := tok (inf := Tryz.t58) Tryz.type58 rfl Tryz.underlying58 (fitS rfl ⟨⟨_, Tryz.type3, by decide⟩, ⟨_, Tryz.type22, by decide⟩, ⟨_, Tryz.type52, by decide⟩, ⟨_, Tryz.type54, by decide⟩, ⟨_, Tryz.type57, by decide⟩, trivial⟩) rfl rfl rfl
theorem tok_59 : TOk Tryz.prog 59 ⟨.struct [(0, 3), (1, 22), (2, 52), (6, 54), (10, 57)], 15, 112, true, .agg [.z 0, .n .u64 0, .n .u64 0, .n .u64 0, .n .u64 0, .n .u64 0, .n .u64 0, .n .u64 0, .n .u64 0, .n .u64 0, .n .u64 0, .n .u64 0, .n .u32 0, .n .u32 0, .b false]⟩ := tok (inf := Tryz.t59) Tryz.type59 rfl Tryz.underlying59 (fitS rfl ⟨⟨_, Tryz.type3, by decide⟩, ⟨_, Tryz.type22, by decide⟩, ⟨_, Tryz.type52, by decide⟩, ⟨_, Tryz.type54, by decide⟩, ⟨_, Tryz.type57, by decide⟩, trivial⟩) rfl rfl rfl
theorem tok_60 : TOk Tryz.prog 60 ⟨.other, 1, 8, true, .nilf⟩ := tok (inf := Tryz.t60) Tryz.type60 rfl Tryz.underlying60 (⟨fun _ => nofun, fun _ _ => nofun⟩) rfl rfl rfl
theorem tok_61 : TOk Tryz.prog 61 ⟨.struct [(0, 3), (1, 42)], 3, 24, true, .agg [.z 0, .n .u64 0, .n .u64 0]⟩ := tok (inf := Tryz.t61) Tryz.type61 rfl Tryz.underlying61 (fitS rfl ⟨⟨_, Tryz.type3, by decide⟩, ⟨_, Tryz.type42, by decide⟩, trivial⟩) rfl rfl rfl
theorem tok_62 : TOk Tryz.prog 62 ⟨.struct [(0, 3), (1, 42)], 3, 24, true, .agg [.z 0, .n .u64 0, .n .u64 0]⟩ := tok (inf := Tryz.t62) Tryz.type62 rfl Tryz.underlying62 (fitS rfl ⟨⟨_, Tryz.type3, by decide⟩, ⟨_, Tryz.type42, by decide⟩, trivial⟩) rfl rfl rfl
theorem tok_64 : TOk Tryz.prog 64 ⟨.other, 1, 8, true, .nilf⟩ := tok (inf := Tryz.t64) Tryz.type64 rfl Tryz.underlying64 (⟨fun _ => nofun, fun _ _ => nofun⟩) rfl rfl rfl
theorem tok_65 : TOk Tryz.prog 65 ⟨.other, 1, 8, true, .nilf⟩ := tok (inf := Tryz.t65) Tryz.type65 rfl Tryz.underlying65 (⟨fun _ => nofun, fun _ _ => nofun⟩) rfl rfl rfl
theorem tok_66 : TOk Tryz.prog 66 ⟨.other, 1, 8, true, .nilf⟩ := tok (inf := Tryz.t66) Tryz.type66 rfl Tryz.underlying66 (⟨fun _ => nofun, fun _ _ => nofun⟩) rfl rfl rfl
theorem tok_67 : TOk Tryz.prog 67 ⟨.other, 1, 8, true, .nilf⟩ := tok (inf := Tryz.t67) Tryz.type67 rfl Tryz.underlying67 (⟨fun _ => nofun, fun _ _ => nofun⟩) rfl rfl rfl
theorem tok_68 : TOk Tryz.prog 68 ⟨.other, 1, 8, true, .nilf⟩ := tok (inf := Tryz.t68) Tryz.type68 rfl Tryz.underlying68 (⟨fun _ => nofun, fun _ _ => nofun⟩) rfl rfl rfl
theorem tok_69 : TOk Tryz.prog 69 ⟨.slice 22, 1, 24, true, .nils⟩ := tok (inf := Tryz.t69) Tryz.type69 rfl Tryz.underlying69 (rfl) rfl rfl rfl
theorem tok_70 : TOk Tryz.prog 70 ⟨.other, 1, 8, true, .nilf⟩ := tok (inf := Tryz.t70) Tryz.type70 rfl Tryz.underlying70 (⟨fun _ => nofun, fun _ _ => nofun⟩) rfl rfl rfl
theorem tok_71 : TOk Tryz.prog 71 ⟨.other, 1, 8, true, .nilf⟩ := tok (inf := Tryz.t71) Tryz.type71 rfl Tryz.underlying71 (⟨fun _ => nofun, fun _ _ => nofun⟩) rfl rfl rfl
theorem tok_72 : TOk Tryz.prog 72 ⟨.other, 1, 8, true, .nilf⟩ := tok (inf := Tryz.t72) Tryz.type72 rfl Tryz.underlying72 (⟨fun _ => nofun, fun _ _ => nofun⟩) rfl rfl rfl
theorem tok_73 : TOk Tryz.prog 73 ⟨.other, 1, 8, true, .nilf⟩ := tok (inf := Tryz.t73) Tryz.type73 rfl Tryz.underlying73 (⟨fun _ => nofun, fun _ _ => nofun⟩) rfl rfl rfl
theorem tok_75 : TOk Tryz.prog 75 ⟨.other, 1, 8, true, .nilf⟩ := tok (inf := Tryz.t75) Tryz.type75 rfl Tryz.underlying75 (⟨fun _ => nofun, fun _ _ => nofun⟩) rfl rfl rfl
theorem tok_76 : TOk Tryz.prog 76 ⟨.other, 1, 8, true, .nilf⟩ := tok (inf := Tryz.t76) Tryz.type76 rfl Tryz.underlying76 (⟨fun _ => nofun, fun _ _ => nofun⟩) rfl rfl rfl
theorem tok_78 : TOk Tryz.prog 78 ⟨.other, 1, 8, true, .nilf⟩ := tok (inf := Tryz.t78) Tryz.type78 rfl Tryz.underlying78 (⟨fun _ => nofun, fun _ _ => nofun⟩) rfl rfl rfl
theorem tok_79 : TOk Tryz.prog 79 ⟨.other, 1, 8, true, .nilf⟩ := tok (inf := Tryz.t79) Tryz.type79 rfl Tryz.underlying79 (⟨fun _ => nofun, fun _ _ => nofun⟩) rfl rfl rfl
theorem tok_80 : TOk Tryz.prog 80 ⟨.other, 1, 8, true, .nilf⟩ := tok (inf := Tryz.t80) Tryz.type80 rfl Tryz.underlying80 (⟨fun _ => nofun, fun _ _ => nofun⟩) rfl rfl rfl
theorem tok_81 : TOk Tryz.prog 81 ⟨.other, 1, 8, true, .nilf⟩ := tok (inf := Tryz.t81) Tryz.type81 rfl Tryz.underlying81 (⟨fun _ => nofun, fun _ _ => nofun⟩) rfl rfl rfl
theorem tok_82 : TOk Tryz.prog 82 ⟨.other, 1, 8, true, .nilf⟩ := tok (inf := Tryz.t82) Tryz.type82 rfl Tryz.underlying82 (⟨fun _ => nofun, fun _ _ => nofun⟩) rfl rfl rfl
theorem tok_83 : TOk Tryz.prog 83 ⟨.struct [(0, 42), (2, 42)], 4, 32, true, .agg [.n .u64 0, .n .u64 0, .n .u64 0, .n .u64 0]⟩ := tok (inf := Tryz.t83) Tryz.type83 rfl Tryz.underlying83 (fitS rfl ⟨⟨_, Tryz.type42, by decide⟩, ⟨_, Tryz.type42, by decide⟩, trivial⟩) rfl rfl rfl
theorem tok_84 : TOk Tryz.prog 84 ⟨.struct [(0, 42), (2, 42)], 4, 32, true, .agg [.n .u64 0, .n .u64 0, .n .u64 0, .n .u64 0]⟩ := tok (inf := Tryz.t84) Tryz.type84 rfl Tryz.underlying84 (fitS rfl ⟨⟨_, Tryz.type42, by decide⟩, ⟨_, Tryz.type42, by decide⟩, trivial⟩) rfl rfl rfl
theorem tok_85 : TOk Tryz.prog 85 ⟨.slice 90, 1, 24, true, .nils⟩ := tok (inf := Tryz.t85) Tryz.type85 rfl Tryz.underlying85 (rfl) rfl rfl rfl
theorem tok_86 : TOk Tryz.prog 86 ⟨.ptr 155, 1, 8, true, .nilp⟩ := tok (inf := Tryz.t86) Tryz.type86 rfl Tryz.underlying86 (rfl) rfl rfl rfl
theorem tok_88 : TOk Tryz.prog 88 ⟨.other, 1, 8, true, .nilf⟩ := tok (inf := Tryz.t88) Tryz.type88 rfl Tryz.underlying88 (⟨fun _ => nofun, fun _ _ => nofun⟩) rfl rfl rfl
theorem tok_89 : TOk Tryz.prog 89 ⟨.struct [(0, 3), (1, 3), (2, 42)], 4, 32, true, .agg [.z 0, .z 0, .n .u64 0, .n .u64 0]⟩ := tok (inf := Tryz.t89) Tryz.type89 rfl Tryz.underlying89 (fitS rfl ⟨⟨_, Tryz.type3, by decide⟩, ⟨_, Tryz.type3, by decide⟩, ⟨_, Tryz.type42, by decide⟩, trivial⟩) rfl rfl rfl
theorem tok_90 : TOk Tryz.prog 90 ⟨.struct [(0, 3), (1, 3), (2, 42)], 4, 32, true, .agg [.z 0, .z 0, .n .u64 0, .n .u64 0]⟩ := tok (inf := Tryz.t90) Tryz.type90 rfl Tryz.underlying90 (fitS rfl ⟨⟨_, Tryz.type3, by decide⟩, ⟨_, Tryz.type3, by decide⟩, ⟨_, Tryz.type42, by decide⟩, trivial⟩) rfl rfl rfl
theorem tok_91 : TOk Tryz.prog 91 ⟨.other, 1, 8, true, .nilf⟩ := tok (inf := Tryz.t91) Tryz.type91 rfl Tryz.underlying91 (⟨fun _ => nofun, fun _ _ => nofun⟩) rfl rfl rfl
theorem tok_92 : TOk Tryz.prog 92 ⟨.other, 1, 8, true, .nilf⟩ := tok (inf := Tryz.t92) Tryz.type92 rfl Tryz.underlying92 (⟨fun _ => nofun, fun _ _ => nofun⟩) rfl rfl rfl
theorem tok_93 : TOk Tryz.prog 93 ⟨.other, 1, 8, true, .nilf⟩ := tok (inf := Tryz.t93) Tryz.type93 rfl Tryz.underlying93 (⟨fun _ => nofun, fun _ _ => nofun⟩) rfl rfl rfl
theorem tok_94 : TOk Tryz.prog 94 ⟨.other, 1, 8, true, .nilf⟩ := tok (inf := Tryz.t94) Tryz.type94 rfl Tryz.underlying94 (⟨fun _ => nofun, fun _ _ => nofun⟩) rfl rfl rfl
theorem tok_95 : TOk Tryz.prog 95 ⟨.other, 1, 8, true, .nilf⟩ := tok (inf := Tryz.t95) Tryz.type95 rfl Tryz.underlying95 (⟨fun _ => nofun, fun _ _ => nofun⟩) rfl rfl rfl
theorem tok_96 : TOk Tryz.prog 96 ⟨.slice 5, 1, 24, true, .nils⟩ := tok (inf := Tryz.t96) Tryz.type96 rfl Tryz.underlying96 (rfl) rfl rfl rfl
theorem tok_98 : TOk Tryz.prog 98 ⟨.other, 1, 8, true, .nilf⟩ := tok (inf := Tryz.t98) Tryz.type98 rfl Tryz.underlying98 (⟨fun _ => nofun, fun _ _ => nofun⟩) rfl rfl rfl
theorem tok_99 : TOk Tryz.prog 99 ⟨.other, 1, 8, true, .nilf⟩ := tok (inf := Tryz.t99) Tryz.type99 rfl Tryz.underlying99 (⟨fun _ => nofun, fun _ _ => nofun⟩) rfl rfl rfl
theorem tok_100 : TOk Tryz.prog 100 ⟨.other, 1, 8, true, .nilf⟩ := tok (inf := Tryz.t100) Tryz.type100 rfl Tryz.underlying100 (⟨fun _ => nofun, fun _ _ => nofun⟩) rfl rfl rfl
theorem tok_101 : TOk Tryz.prog 101 ⟨.ptr 103, 1, 8, true, .nilp⟩ := tok (inf := Tryz.t101) Tryz.type101 rfl Tryz.underlying101 (rfl) rfl rfl rfl
theorem tok_102 : TOk Tryz.prog 102 ⟨.struct [(0, 47), (1, 27)], 3, 24, true, .agg [.nilp, .n .u64 0, .n .u64 0]⟩ := tok (inf := Tryz.t102) Tryz.type102 rfl Tryz.underlying102 (fitS rfl ⟨⟨_, Tryz.type47, by decide⟩, ⟨_, Tryz.type27, by decide⟩, trivial⟩) rfl rfl rfl
theorem tok_103 : TOk Tryz.prog 103 ⟨.struct [(0, 47), (1, 27)], 3, 24, true, .agg [.nilp, .n .u64 0, .n .u64 0]⟩ := tok (inf := Tryz.t103) Tryz.type103 rfl Tryz.underlying103 (fitS rfl ⟨⟨_, Tryz.type47, by decide⟩, ⟨_, Tryz.type27, by decide⟩, trivial⟩) rfl rfl rfl
theorem tok_105 : TOk Tryz.prog 105 ⟨.other, 1, 8, true, .nilf⟩ := tok (inf := Tryz.t105) Tryz.type105 rfl Tryz.underlying105 (⟨fun _ => nofun, fun _ _ => nofun⟩) rfl rfl rfl
theorem tok_106 : TOk Tryz.prog 106 ⟨.other, 1, 8, true, .nilf⟩ := tok (inf := Tryz.t106) Tryz.type106 rfl Tryz.underlying106 (⟨fun _ => nofun, fun _ _ => nofun⟩) rfl rfl rfl
theorem tok_107 : TOk Tryz.prog 107 ⟨.other, 1, 8, true, .nilf⟩ := tok (inf := Tryz.t107) Tryz.type107 rfl Tryz.underlying107 (⟨fun _ => nofun, fun _ _ => nofun⟩) rfl rfl rfl
theorem tok_108 : TOk Tryz.prog 108 ⟨.other, 1, 8, true, .nilf⟩ := tok (inf := Tryz.t108) Tryz.type108 rfl Tryz.underlying108 (⟨fun _ => nofun, fun _ _ => nofun⟩) rfl rfl rfl
theorem tok_109 : TOk Tryz.prog 109 ⟨.other, 1, 8, true, .nilf⟩ := tok (inf := Tryz.t109) Tryz.type109 rfl Tryz.underlying109 (⟨fun _ => nofun, fun _ _ => nofun⟩) rfl rfl rfl
theorem tok_111 : TOk Tryz.prog 111 ⟨.other, 1, 8, true, .nilf⟩ := tok (inf := Tryz.t111) Tryz.type111 rfl Tryz.underlying111 (⟨fun _ => nofun, fun _ _ => nofun⟩) rfl rfl rfl
theorem tok_112 : TOk Tryz.prog 112 ⟨.other, 1, 8, true, .nilf⟩ := tok (inf := Tryz.t112) Tryz.type112 rfl Tryz.underlying112 (⟨fun _ => nofun, fun _ _ => nofun⟩) rfl rfl rfl
theorem tok_114 : TOk Tryz.prog 114 ⟨.other, 1, 8, true, .nilf⟩ := tok (inf := Tryz.t114) Tryz.type114 rfl Tryz.underlying114 (⟨fun _ => nofun, fun _ _ => nofun⟩) rfl rfl rfl
theorem tok_115 : TOk Tryz.prog 115 ⟨.other, 1, 8, true, .nilf⟩ := tok (inf := Tryz.t115) Tryz.type115 rfl Tryz.underlying115 (⟨fun _ => nofun, fun _ _ => nofun⟩) rfl rfl rfl
theorem tok_116 : TOk Tryz.prog 116 ⟨.array 2 22, 2, 16, true, .agg [.n .u64 0, .n .u64 0]⟩ := tok (inf := Tryz.t116) Tryz.type116 rfl Tryz.underlying116 (rfl) rfl rfl rfl
theorem tok_117 : TOk Tryz.prog 117 ⟨.other, 1, 8, true, .nilf⟩ := tok (inf := Tryz.t117) Tryz.type117 rfl Tryz.underlying117 (⟨fun _ => nofun, fun _ _ => nofun⟩) rfl rfl rfl
theorem tok_119 : TOk Tryz.prog 119 ⟨.other, 1, 8, true, .nilf⟩ := tok (inf := Tryz.t119) Tryz.type119 rfl Tryz.underlying119 (⟨fun _ => nofun, fun _ _ => nofun⟩) rfl rfl rfl
theorem tok_120 : TOk Tryz.prog 120 ⟨.slice 3, 1, 24, true, .nils⟩ := tok (inf := Tryz.t120) Tryz.type120 rfl Tryz.underlying120 (rfl) rfl rfl rfl
theorem tok_122 : TOk Tryz.prog 122 ⟨.other, 1, 8, true, .nilf⟩ := tok (inf := Tryz.t122) Tryz.type122 rfl Tryz.underlying122 (⟨fun _ => nofun, fun _ _ => nofun⟩) rfl rfl rfl
theorem tok_123 : TOk Tryz.prog 123 ⟨.other, 1, 8, true, .nilf⟩ := tok (inf := Tryz.t123) Tryz.type123 rfl Tryz.underlying123 (⟨fun _ => nofun, fun _ _ => nofun⟩) rfl rfl rfl
theorem tok_124 : TOk Tryz.prog 124 ⟨.other, 1, 8, true, .nilf⟩ := tok (inf := Tryz.t124) Tryz.type124 rfl Tryz.underlying124 (⟨fun _ => nofun, fun _ _ => nofun⟩) rfl rfl rfl
theorem tok_125 : TOk Tryz.prog 125 ⟨.other, 1, 8, true, .nilf⟩ := tok (inf := Tryz.t125) Tryz.type125 rfl Tryz.underlying125 (⟨fun _ => nofun, fun _ _ => nofun⟩) rfl rfl rfl
theorem tok_126 : TOk Tryz.prog 126 ⟨.other, 1, 8, true, .nilf⟩ := tok (inf := Tryz.t126) Tryz.type126 rfl Tryz.underlying126 (⟨fun _ => nofun, fun _ _ => nofun⟩) rfl rfl rfl
theorem tok_127 : TOk Tryz.prog 127 ⟨.other, 1, 8, true, .nilf⟩ := tok (inf := Tryz.t127) Tryz.type127 rfl Tryz.underlying127 (⟨fun _ => nofun, fun _ _ => nofun⟩) rfl rfl rfl
theorem tok_128 : TOk Tryz.prog 128 ⟨.other, 1, 8, true, .nilf⟩ := tok (inf := Tryz.t128) Tryz.type128 rfl Tryz.underlying128 (⟨fun _ => nofun, fun _ _ => nofun⟩) rfl rfl rfl
theorem tok_129 : TOk Tryz.prog 129 ⟨.other, 1, 8, true, .nilf⟩ := tok (inf := Tryz.t129) Tryz.type129 rfl Tryz.underlying129 (⟨fun _ => nofun, fun _ _ => nofun⟩) rfl rfl rfl
theorem tok_130 : TOk Tryz.prog 130 ⟨.other, 1, 8, true, .nilf⟩ := tok (inf := Tryz.t130) Tryz.type130 rfl Tryz.underlying130 (⟨fun _ => nofun, fun _ _ => nofun⟩) rfl rfl rfl
theorem tok_131 : TOk Tryz.prog 131 ⟨.other, 1, 8, true, .nilf⟩ := tok (inf := Tryz.t131) Tryz.type131 rfl Tryz.underlying131 (⟨fun _ => nofun, fun _ _ => nofun⟩) rfl rfl rfl
theorem tok_132 : TOk Tryz.prog 132 ⟨.other, 1, 8, true, .nilf⟩ := tok (inf := Tryz.t132) Tryz.type132 rfl Tryz.underlying132 (⟨fun _ => nofun, fun _ _ => nofun⟩) rfl rfl rfl
theorem tok_133 : TOk Tryz.prog 133 ⟨.array 8 22, 8, 64, true, .agg [.n .u64 0, .n .u64 0, .n .u64 0, .n .u64 0, .n .u64 0, .n .u64 0, .n .u64 0, .n .u64 0]⟩ := tok (inf := Tryz.t133) Tryz.type133 rfl Tryz.underlying133 (rfl) rfl rfl rfl
theorem tok_134 : TOk Tryz.prog 134 ⟨.struct [(0, 3), (1, 22), (2, 42), (4, 133), (12, 69), (13, 59)], 28, 232, true, .agg [.z 0, .n .u64 0, .n .u64 0, .n .u64 0, .n .u64 0, .n .u64 0, .n .u64 0, .n .u64 0, .n .u64 0, .n .u64 0, .n .u64 0, .n .u64 0, .nils, .z 0, .n .u64 0, .n .u64 0, .n .u64 0, .n .u64 0, .n .u64 0, .n .u64 0, .n .u64 0, .n .u64 0, .n .u64 0, .n .u64 0, .n .u64 0, .n .u32 0, .n .u32 0, .b false]⟩ := tok (inf := Tryz.t134) Tryz.type134 rfl Tryz.underlying134 (fitS rfl ⟨⟨_, Tryz.type3, by decide⟩, ⟨_, Tryz.type22, by decide⟩, ⟨_, Tryz.type42, by decide⟩, ⟨_, Tryz.type133, by decide⟩, ⟨_, Tryz.type69, by decide⟩, ⟨_, Tryz.type59, by decide⟩, trivial⟩) rfl rfl rfl
theorem tok_135 : TOk Tryz.prog 135 ⟨.struct [(0, 3), (1, 22), (2, 42), (4, 133), (12, 69), (13, 59)], 28, 232, true, .agg [.z 0, .n .u64 0, .n .u64 0, .n .u64 0, .n .u64 0, .n .u64 0, .n .u64 0, .n .u64 0, .n .u64 0, .n .u64 0, .n .u64 0, .n .u64 0, .nils, .z 0, .n .u64 0, .n .u64 0, .n .u64 0, .n .u64 0, .n .u64 0, .n .u64 0, .n .u64 0, .n .u64 0, .n .u64 0, .n .u64 0, .n .u64 0, .n .u32 0, .n .u32 0, .b false]⟩ := tok (inf := Tryz.t135) Tryz.type135 rfl Tryz.underlying135 (fitS rfl ⟨⟨_, Tryz.type3, by decide⟩, ⟨_, Tryz.type22, by decide⟩, ⟨_, Tryz.type42, by decide⟩, ⟨_, Tryz.type133, by decide⟩, ⟨_, Tryz.type69, by decide⟩, ⟨_, Tryz.type59, by decide⟩, trivial⟩) rfl rfl rfl
theorem tok_136 : TOk Tryz.prog 136 ⟨.other, 1, 8, true, .nilf⟩ := tok (inf := Tryz.t136) Tryz.type136 rfl Tryz.underlying136 (⟨fun _ => nofun, fun _ _ => nofun⟩) rfl rfl rfl
theorem tok_137 : TOk Tryz.prog 137 ⟨.other, 1, 8, true, .nilf⟩ := tok (inf := Tryz.t137) Tryz.type137 rfl Tryz.underlying137 (⟨fun _ => nofun, fun _ _ => nofun⟩) rfl rfl rfl
theorem tok_138 : TOk Tryz.prog 138 ⟨.other, 1, 8, true, .nilf⟩ := tok (inf := Tryz.t138) Tryz.type138 rfl Tryz.underlying138 (⟨fun _ => nofun, fun _ _ => nofun⟩) rfl rfl rfl
theorem tok_139 : TOk Tryz.prog 139 ⟨.other, 1, 8, true, .nilf⟩ := tok (inf := Tryz.t139) Tryz.type139 rfl Tryz.underlying139 (⟨fun _ => nofun, fun _ _ => nofun⟩) rfl rfl rfl
theorem tok_140 : TOk Tryz.prog 140 ⟨.other, 1, 8, true, .nilf⟩ := tok (inf := Tryz.t140) Tryz.type140 rfl Tryz.underlying140 (⟨fun _ => nofun, fun _ _ => nofun⟩) rfl rfl rfl
theorem tok_141 : TOk Tryz.prog 141 ⟨.other, 1, 8, true, .nilf⟩ := tok (inf := Tryz.t141) Tryz.type141 rfl Tryz.underlying141 (⟨fun _ => nofun, fun _ _ => nofun⟩) rfl rfl rfl
theorem tok_142 : TOk Tryz.prog 142 ⟨.other, 1, 8, true, .nilf⟩ := tok (inf := Tryz.t142) Tryz.type142 rfl Tryz.underlying142 (⟨fun _ => nofun, fun _ _ => nofun⟩) rfl rfl rfl
theorem tok_143 : TOk Tryz.prog 143 ⟨.other, 1, 8, true, .nilf⟩ := tok (inf := Tryz.t143) Tryz.type143 rfl Tryz.underlying143 (⟨fun _ => nofun, fun _ _ => nofun⟩) rfl rfl rfl
theorem tok_145 : TOk Tryz.prog 145 ⟨.other, 1, 8, true, .nilf⟩ := tok (inf := Tryz.t145) Tryz.type145 rfl Tryz.underlying145 (⟨fun _ => nofun, fun _ _ => nofun⟩) rfl rfl rfl
theorem tok_147 : TOk Tryz.prog 147 ⟨.other, 1, 8, true, .nilf⟩ := tok (inf := Tryz.t147) Tryz.type147 rfl Tryz.underlying147 (⟨fun _ => nofun, fun _ _ => nofun⟩) rfl rfl rfl
theorem tok_148 : TOk Tryz.prog 148 ⟨.other, 1, 8, true, .nilf⟩ := tok (inf := Tryz.t148) Tryz.type148 rfl Tryz.underlying148 (⟨fun _ => nofun, fun _ _ => nofun⟩) rfl rfl rfl
theorem tok_149 : TOk Tryz.prog 149 ⟨.iface, 1, 16, false, .nili⟩ := tok (inf := Tryz.t149) Tryz.type149 rfl Tryz.underlying149 (⟨_, rfl⟩) rfl rfl rfl
theorem tok_150 : TOk Tryz.prog 150 ⟨.iface, 1, 16, false, .nili⟩ := tok (inf := Tryz.t150) Tryz.type150 rfl Tryz.underlying150 (⟨_, rfl⟩) rfl rfl rfl
theorem tok_151 : TOk Tryz.prog 151 ⟨.other, 1, 8, true, .nilf⟩ := tok (inf := Tryz.t151) Tryz.type151 rfl Tryz.underlying151 (⟨fun _ => nofun, fun _ _ => nofun⟩) rfl rfl rfl
theorem tok_152 : TOk Tryz.prog 152 ⟨.other, 1, 8, true, .nilf⟩ := tok (inf := Tryz.t152) Tryz.type152 rfl Tryz.underlying152 (⟨fun _ => nofun, fun _ _ => nofun⟩) rfl rfl rfl
theorem tok_153 : TOk Tryz.prog 153 ⟨.other, 1, 8, true, .nilf⟩ := tok (inf := Tryz.t153) Tryz.type153 rfl Tryz.underlying153 (⟨fun _ => nofun, fun _ _ => nofun⟩) rfl rfl rfl
theorem tok_154 : TOk Tryz.prog 154 ⟨.struct [(0, 39), (1, 42)], 3, 24, true, .agg [.nilp, .n .u64 0, .n .u64 0]⟩ := tok (inf := Tryz.t154) Tryz.type154 rfl Tryz.underlying154 (fitS rfl ⟨⟨_, Tryz.type39, by decide⟩, ⟨_, Tryz.type42, by decide⟩, trivial⟩) rfl rfl rfl
theorem tok_155 : TOk Tryz.prog 155 ⟨.struct [(0, 39), (1, 42)], 3, 24, true, .agg [.nilp, .n .u64 0, .n .u64 0]⟩ := tok (inf := Tryz.t155) Tryz.type155 rfl Tryz.underlying155 (fitS rfl ⟨⟨_, Tryz.type39, by decide⟩, ⟨_, Tryz.type42, by decide⟩, trivial⟩) rfl rfl rfl
theorem tok_156 : TOk Tryz.prog 156 ⟨.other, 1, 8, true, .nilf⟩ := tok (inf := Tryz.t156) Tryz.type156 rfl Tryz.underlying156 (⟨fun _ => nofun, fun _ _ => nofun⟩) rfl rfl rfl
theorem tok_157 : TOk Tryz.prog 157 ⟨.other, 1, 8, true, .nilf⟩ := tok (inf := Tryz.t157) Tryz.type157 rfl Tryz.underlying157 (⟨fun _ => nofun, fun _ _ => nofun⟩) rfl rfl rfl
theorem tok_159 : TOk Tryz.prog 159 ⟨.other, 1, 8, true, .nilf⟩ := tok (inf := Tryz.t159) Tryz.type159 rfl Tryz.underlying159 (⟨fun _ => nofun, fun _ _ => nofun⟩) rfl rfl rfl
theorem tok_160 : TOk Tryz.prog 160 ⟨.other, 1, 8, true, .nilf⟩ := tok (inf := Tryz.t160) Tryz.type160 rfl Tryz.underlying160 (⟨fun _ => nofun, fun _ _ => nofun⟩) rfl rfl rfl
theorem tok_161 : TOk Tryz.prog 161 ⟨.other, 1, 8, true, .nilf⟩ := tok (inf := Tryz.t161) Tryz.type161 rfl Tryz.underlying161 (⟨fun _ => nofun, fun _ _ => nofun⟩) rfl rfl rfl
theorem tok_162 : TOk Tryz.prog 162 ⟨.struct [(0, 27), (2, 27)], 4, 32, true, .agg [.n .u64 0, .n .u64 0, .n .u64 0, .n .u64 0]⟩ := tok (inf := Tryz.t162) Tryz.type162 rfl Tryz.underlying162 (fitS rfl ⟨⟨_, Tryz.type27, by decide⟩, ⟨_, Tryz.type27, by decide⟩, trivial⟩) rfl rfl rfl
theorem tok_163 : TOk Tryz.prog 163 ⟨.struct [(0, 27), (2, 27)], 4, 32, true, .agg [.n .u64 0, .n .u64 0, .n .u64 0, .n .u64 0]⟩ := tok (inf := Tryz.t163) Tryz.type163 rfl Tryz.underlying163 (fitS rfl ⟨⟨_, Tryz.type27, by decide⟩, ⟨_, Tryz.type27, by decide⟩, trivial⟩) rfl rfl rfl
theorem tok_164 : TOk Tryz.prog 164 ⟨.other, 1, 8, true, .nilf⟩ := tok (inf := Tryz.t164) Tryz.type164 rfl Tryz.underlying164 (⟨fun _ => nofun, fun _ _ => nofun⟩) rfl rfl rfl
theorem tok_165 : TOk Tryz.prog 165 ⟨.other, 1, 8, true, .nilf⟩ := tok (inf := Tryz.t165) Tryz.type165 rfl Tryz.underlying165 (⟨fun _ => nofun, fun _ _ => nofun⟩) rfl rfl rfl
theorem tok_166 : TOk Tryz.prog 166 ⟨.other, 1, 8, true, .nilf⟩ := tok (inf := Tryz.t166) Tryz.type166 rfl Tryz.underlying166 (⟨fun _ => nofun, fun _ _ => nofun⟩) rfl rfl rfl
theorem tok_167 : TOk Tryz.prog 167 ⟨.other, 1, 8, true, .nilf⟩ := tok (inf := Tryz.t167) Tryz.type167 rfl Tryz.underlying167 (⟨fun _ => nofun, fun _ _ => nofun⟩) rfl rfl rfl
theorem tok_168 : TOk Tryz.prog 168 ⟨.struct [(0, 3), (1, 167)], 2, 16, true, .agg [.z 0, .nilf]⟩ := tok (inf := Tryz.t168) Tryz.type168 rfl Tryz.underlying168 (fitS rfl ⟨⟨_, Tryz.type3, by decide⟩, ⟨_, Tryz.type167, by decide⟩, trivial⟩) rfl rfl rfl
theorem tok_169 : TOk Tryz.prog 169 ⟨.struct [(0, 3), (1, 167)], 2, 16, true, .agg [.z 0, .nilf]⟩ := tok (inf := Tryz.t169) Tryz.type169 rfl Tryz.underlying169 (fitS rfl ⟨⟨_, Tryz.type3, by decide⟩, ⟨_, Tryz.type167, by decide⟩, trivial⟩) rfl rfl rfl
theorem tok_170 : TOk Tryz.prog 170 ⟨.array 4 169, 8, 64, true, .agg [.z 0, .nilf, .z 0, .nilf, .z 0, .nilf, .z 0, .nilf]⟩ := tok (inf := Tryz.t170) Tryz.type170 rfl Tryz.underlying170 (rfl) rfl rfl rfl
theorem tok_171 : TOk Tryz.prog 171 ⟨.other, 1, 8, true, .nilf⟩ := tok (inf := Tryz.t171) Tryz.type171 rfl Tryz.underlying171 (⟨fun _ => nofun, fun _ _ => nofun⟩) rfl rfl rfl
theorem tok_173 : TOk Tryz.prog 173 ⟨.other, 1, 8, true, .nilf⟩ := tok (inf := Tryz.t173) Tryz.type173 rfl Tryz.underlying173 (⟨fun _ => nofun, fun _ _ => nofun⟩) rfl rfl rfl
theorem tok_174 : TOk Tryz.prog 174 ⟨.other, 1, 8, true, .nilf⟩ := tok (inf := Tryz.t174) Tryz.type174 rfl Tryz.underlying174 (⟨fun _ => nofun, fun _ _ => nofun⟩) rfl rfl rfl
theorem tok_175 : TOk Tryz.prog 175 ⟨.other, 1, 8, true, .nilf⟩ := tok (inf := Tryz.t175) Tryz.type175 rfl Tryz.underlying175 (⟨fun _ => nofun, fun _ _ => nofun⟩) rfl rfl rfl
theorem tok_176 : TOk Tryz.prog 176 ⟨.other, 1, 8, true, .nilf⟩ := tok (inf := Tryz.t176) Tryz.type176 rfl Tryz.underlying176 (⟨fun _ => nofun, fun _ _ => nofun⟩) rfl rfl rfl
theorem tok_177 : TOk Tryz.prog 177 ⟨.other, 1, 8, true, .nilf⟩ := tok (inf := Tryz.t177) Tryz.type177 rfl Tryz.underlying177 (⟨fun _ => nofun, fun _ _ => nofun⟩) rfl rfl rfl
theorem tok_178 : TOk Tryz.prog 178 ⟨.other, 1, 8, true, .nilf⟩ := tok (inf := Tryz.t178) Tryz.type178 rfl Tryz.underlying178 (⟨fun _ => nofun, fun _ _ => nofun⟩) rfl rfl rfl
theorem tok_179 : TOk Tryz.prog 179 ⟨.other, 1, 8, true, .nilf⟩ := tok (inf := Tryz.t179) Tryz.type179 rfl Tryz.underlying179 (⟨fun _ => nofun, fun _ _ => nofun⟩) rfl rfl rfl
theorem tok_180 : TOk Tryz.prog 180 ⟨.other, 1, 8, true, .nilf⟩ := tok (inf := Tryz.t180) Tryz.type180 rfl Tryz.underlying180 (⟨fun _ => nofun, fun _ _ => nofun⟩) rfl rfl rfl
theorem tok_181 : TOk Tryz.prog 181 ⟨.other, 1, 8, true, .nilf⟩ := tok (inf := Tryz.t181) Tryz.type181 rfl Tryz.underlying181 (⟨fun _ => nofun, fun _ _ => nofun⟩) rfl rfl rfl
theorem tok_182 : TOk Tryz.prog 182 ⟨.other, 1, 8, true, .nilf⟩ := tok (inf := Tryz.t182) Tryz.type182 rfl Tryz.underlying182 (⟨fun _ => nofun, fun _ _ => nofun⟩) rfl rfl rfl
theorem tok_183 : TOk Tryz.prog 183 ⟨.other, 1, 8, true, .nilf⟩ := tok (inf := Tryz.t183) Tryz.type183 rfl Tryz.underlying183 (⟨fun _ => nofun, fun _ _ => nofun⟩) rfl rfl rfl
theorem tok_184 : TOk Tryz.prog 184 ⟨.other, 1, 8, true, .nilf⟩ := tok (inf := Tryz.t184) Tryz.type184 rfl Tryz.underlying184 (⟨fun _ => nofun, fun _ _ => nofun⟩) rfl rfl rfl
theorem tok_185 : TOk Tryz.prog 185 ⟨.other, 1, 8, true, .nilf⟩ := tok (inf := Tryz.t185) Tryz.type185 rfl Tryz.underlying185 (⟨fun _ => nofun, fun _ _ => nofun⟩) rfl rfl rfl
theorem tok_186 : TOk Tryz.prog 186 ⟨.struct [], 0, 0, true, .agg []⟩ := tok (inf := Tryz.t186) Tryz.type186 rfl Tryz.underlying186 (fitS rfl trivial) rfl rfl rfl
theorem tok_187 : TOk Tryz.prog 187 ⟨.struct [], 0, 0, true, .agg []⟩ := tok (inf := Tryz.t187) Tryz.type187 rfl Tryz.underlying187 (fitS rfl trivial) rfl rfl rfl
theorem tok_188 : TOk Tryz.prog 188 ⟨.struct [], 0, 0, true, .agg []⟩ := tok (inf := Tryz.t188) Tryz.type188 rfl Tryz.underlying188 (fitS rfl trivial) rfl rfl rfl
theorem tok_189 : TOk Tryz.prog 189 ⟨.struct [], 0, 0, true, .agg []⟩ := tok (inf := Tryz.t189) Tryz.type189 rfl Tryz.underlying189 (fitS rfl trivial) rfl rfl rfl
theorem tok_190 : TOk Tryz.prog 190 ⟨.struct [], 0, 0, true, .agg []⟩ := tok (inf := Tryz.t190) Tryz.type190 rfl Tryz.underlying190 (fitS rfl trivial) rfl rfl rfl
theorem tok_191 : TOk Tryz.prog 191 ⟨.other, 1, 8, true, .nilf⟩ := tok (inf := Tryz.t191) Tryz.type191 rfl Tryz.underlying191 (⟨fun _ => nofun, fun _ _ => nofun⟩) rfl rfl rfl
theorem tok_192 : TOk Tryz.prog 192 ⟨.other, 1, 8, true, .nilf⟩ := tok (inf := Tryz.t192) Tryz.type192 rfl Tryz.underlying192 (⟨fun _ => nofun, fun _ _ => nofun⟩) rfl rfl rfl
theorem tok_194 : TOk Tryz.prog 194 ⟨.other, 1, 8, true, .nilf⟩ := tok (inf := Tryz.t194) Tryz.type194 rfl Tryz.underlying194 (⟨fun _ => nofun, fun _ _ => nofun⟩) rfl rfl rfl
theorem tok_195 : TOk Tryz.prog 195 ⟨.other, 1, 8, true, .nilf⟩ := tok (inf := Tryz.t195) Tryz.type195 rfl Tryz.underlying195 (⟨fun _ => nofun, fun _ _ => nofun⟩) rfl rfl rfl
theorem tok_196 : TOk Tryz.prog 196 ⟨.other, 1, 8, true, .nilf⟩ := tok (inf := Tryz.t196) Tryz.type196 rfl Tryz.underlying196 (⟨fun _ => nofun, fun _ _ => nofun⟩) rfl rfl rfl
theorem tok_197 : TOk Tryz.prog 197 ⟨.int .u64, 1, 8, true, .n .u64 0⟩ := tok (inf := Tryz.t197) Tryz.type197 rfl Tryz.underlying197 (rfl) rfl rfl rfl
theorem tok_198 : TOk Tryz.prog 198 ⟨.other, 1, 8, true, .nilf⟩ := tok (inf := Tryz.t198) Tryz.type198 rfl Tryz.underlying198 (⟨fun _ => nofun, fun _ _ => nofun⟩) rfl rfl rfl
theorem tok_199 : TOk Tryz.prog 199 ⟨.other, 1, 8, true, .nilf⟩ := tok (inf := Tryz.t199) Tryz.type199 rfl Tryz.underlying199 (⟨fun _ => nofun, fun _ _ => nofun⟩) rfl rfl rfl
theorem tok_200 : TOk Tryz.prog 200 ⟨.array 4 30, 4, 16, true, .agg [.n .u32 0, .n .u32 0, .n .u32 0, .n .u32 0]⟩ := tok (inf := Tryz.t200) Tryz.type200 rfl Tryz.underlying200 (rfl) rfl rfl rfl
theorem tok_201 : TOk Tryz.prog 201 ⟨.other, 1, 8, true, .nilf⟩ := tok (inf := Tryz.t201) Tryz.type201 rfl Tryz.underlying201 (⟨fun _ => nofun, fun _ _ => nofun⟩) rfl rfl rfl
theorem tok_202 : TOk Tryz.prog 202 ⟨.other, 1, 8, true, .nilf⟩ := tok (inf := Tryz.t202) Tryz.type202 rfl Tryz.underlying202 (⟨fun _ => nofun, fun _ _ => nofun⟩) rfl rfl rfl
theorem tok_203 : TOk Tryz.prog 203 ⟨.other, 1, 8, true, .nilf⟩ := tok (inf := Tryz.t203) Tryz.type203 rfl Tryz.underlying203 (⟨fun _ => nofun, fun _ _ => nofun⟩) rfl rfl rfl
theorem tok_204 : TOk Tryz.prog 204 ⟨.other, 1, 8, true, .nilf⟩ := tok (inf := Tryz.t204) Tryz.type204 rfl Tryz.underlying204 (⟨fun _ => nofun, fun _ _ => nofun⟩) rfl rfl rfl
theorem tok_205 : TOk Tryz.prog 205 ⟨.iface, 1, 16, false, .nili⟩ := tok (inf := Tryz.t205) Tryz.type205 rfl Tryz.underlying205 (⟨_, rfl⟩) rfl rfl rfl
theorem tok_206 : TOk Tryz.prog 206 ⟨.iface, 1, 16, false, .nili⟩ := tok (inf := Tryz.t206) Tryz.type206 rfl Tryz.underlying206 (⟨_, rfl⟩) rfl rfl rfl
theorem tok_207 : TOk Tryz.prog 207 ⟨.other, 1, 8, true, .nilf⟩ := tok (inf := Tryz.t207) Tryz.type207 rfl Tryz.underlying207 (⟨fun _ => nofun, fun _ _ => nofun⟩) rfl rfl rfl
theorem tok_208 : TOk Tryz.prog 208 ⟨.other, 1, 8, true, .nilf⟩ := tok (inf := Tryz.t208) Tryz.type208 rfl Tryz.underlying208 (⟨fun _ => nofun, fun _ _ => nofun⟩) rfl rfl rfl
theorem tok_209 : TOk Tryz.prog 209 ⟨.other, 1, 8, true, .nilf⟩ := tok (inf := Tryz.t209) Tryz.type209 rfl Tryz.underlying209 (⟨fun _ => nofun, fun _ _ => nofun⟩) rfl rfl rfl
theorem tok_210 : TOk Tryz.prog 210 ⟨.other, 1, 8, true, .nilf⟩ := tok (inf := Tryz.t210) Tryz.type210 rfl Tryz.underlying210 (⟨fun _ => nofun, fun _ _ => nofun⟩) rfl rfl rfl
theorem tok_211 : TOk Tryz.prog 211 ⟨.struct [(0, 3), (1, 22), (2, 22)], 3, 24, true, .agg [.z 0, .n .u64 0, .n .u64 0]⟩ := tok (inf := Tryz.t211) Tryz.type211 rfl Tryz.underlying211 (fitS rfl ⟨⟨_, Tryz.type3, by decide⟩, ⟨_, Tryz.type22, by decide⟩, ⟨_, Tryz.type22, by decide⟩, trivial⟩) rfl rfl rfl
theorem tok_212 : TOk Tryz.prog 212 ⟨.struct [(0, 3), (1, 22), (2, 22)], 3, 24, true, .agg [.z 0, .n .u64 0, .n .u64 0]⟩ := tok (inf := Tryz.t212) Tryz.type212 rfl Tryz.underlying212 (fitS rfl ⟨⟨_, Tryz.type3, by decide⟩, ⟨_, Tryz.type22, by decide⟩, ⟨_, Tryz.type22, by decide⟩, trivial⟩) rfl rfl rfl
theorem tok_213 : TOk Tryz.prog 213 ⟨.array 3 212, 9, 72, true, .agg [.z 0, .n .u64 0, .n .u64 0, .z 0, .n .u64 0, .n .u64 0, .z 0, .n .u64 0, .n .u64 0]⟩ := tok (inf := Tryz.t213) Tryz.type213 rfl Tryz.underlying213 (rfl) rfl rfl rfl
theorem tok_214 : TOk Tryz.prog 214 ⟨.other, 1, 8, true, .nilf⟩ := tok (inf := Tryz.t214) Tryz.type214 rfl Tryz.underlying214 (⟨fun _ => nofun, fun _ _ => nofun⟩) rfl rfl rfl
theorem tok_215 : TOk Tryz.prog 215 ⟨.ptr 309, 1, 8, true, .nilp⟩ := tok (inf := Tryz.t215) Tryz.type215 rfl Tryz.underlying215 (rfl) rfl rfl rfl
theorem tok_216 : TOk Tryz.prog 216 ⟨.other, 1, 8, true, .nilf⟩ := tok (inf := Tryz.t216) Tryz.type216 rfl Tryz.underlying216 (⟨fun _ => nofun, fun _ _ => nofun⟩) rfl rfl rfl
theorem tok_225 : TOk Tryz.prog 225 ⟨.ptr 5, 1, 8, true, .nilp⟩ := tok (inf := Tryz.t225) Tryz.type225 rfl Tryz.underlying225 (rfl) rfl rfl rfl
theorem tok_230 : TOk Tryz.prog 230 ⟨.other, 1, 8, true, .nilf⟩ := tok (inf := Tryz.t230) Tryz.type230 rfl Tryz.underlying230 (⟨fun _ => nofun, fun _ _ => nofun⟩) rfl rfl rfl
theorem tok_231 : TOk Tryz.prog 231 ⟨.other, 1, 8, true, .nilf⟩ := tok (inf := Tryz.t231) Tryz.type231 rfl Tryz.underlying231 (⟨fun _ => nofun, fun _ _ => nofun⟩) rfl rfl rfl
theorem tok_232 : TOk Tryz.prog 232 ⟨.other, 1, 8, true, .nilf⟩ := tok (inf := Tryz.t232) Tryz.type232 rfl Tryz.underlying232 (⟨fun _ => nofun, fun _ _ => nofun⟩) rfl rfl rfl
theorem tok_233 : TOk Tryz.prog 233 ⟨.other, 1, 8, true, .nilf⟩ := tok (inf := Tryz.t233) Tryz.type233 rfl Tryz.underlying233 (⟨fun _ => nofun, fun _ _ => nofun⟩) rfl rfl rfl
theorem tok_235 : TOk Tryz.prog 235 ⟨.other, 1, 8, true, .nilf⟩ := tok (inf := Tryz.t235) Tryz.type235 rfl Tryz.underlying235 (⟨fun _ => nofun, fun _ _ => nofun⟩) rfl rfl rfl
theorem tok_236 : TOk Tryz.prog 236 ⟨.other, 1, 8, true, .nilf⟩ := tok (inf := Tryz.t236) Tryz.type236 rfl Tryz.underlying236 (⟨fun _ => nofun, fun _ _ => nofun⟩) rfl rfl rfl
theorem tok_237 : TOk Tryz.prog 237 ⟨.other, 1, 8, true, .nilf⟩ := tok (inf := Tryz.t237) Tryz.type237 rfl Tryz.underlying237 (⟨fun _ => nofun, fun _ _ => nofun⟩) rfl rfl rfl
theorem tok_238 : TOk Tryz.prog 238 ⟨.other, 1, 8, true, .nilf⟩ := tok (inf := Tryz.t238) Tryz.type238 rfl Tryz.underlying238 (⟨fun _ => nofun, fun _ _ => nofun⟩) rfl rfl rfl
theorem tok_239 : TOk Tryz.prog 239 ⟨.other, 1, 8, true, .nilf⟩ := tok (inf := Tryz.t239) Tryz.type239 rfl Tryz.underlying239 (⟨fun _ => nofun, fun _ _ => nofun⟩) rfl rfl rfl
theorem tok_240 : TOk Tryz.prog 240 ⟨.slice 22, 1, 24, true, .nils⟩ := tok (inf := Tryz.t240) Tryz.type240 rfl Tryz.underlying240 (rfl) rfl rfl rfl
theorem tok_241 : TOk Tryz.prog 241 ⟨.other, 1, 8, true, .nilf⟩ := tok (inf := Tryz.t241) Tryz.type241 rfl Tryz.underlying241 (⟨fun _ => nofun, fun _ _ => nofun⟩) rfl rfl rfl
theorem tok_242 : TOk Tryz.prog 242 ⟨.other, 1, 8, true, .nilf⟩ := tok (inf := Tryz.t242) Tryz.type242 rfl Tryz.underlying242 (⟨fun _ => nofun, fun _ _ => nofun⟩) rfl rfl rfl
theorem tok_243 : TOk Tryz.prog 243 ⟨.other, 1, 8, true, .nilf⟩ := tok (inf := Tryz.t243) Tryz.type243 rfl Tryz.underlying243 (⟨fun _ => nofun, fun _ _ => nofun⟩) rfl rfl rfl
theorem tok_244 : TOk Tryz.prog 244 ⟨.other, 1, 8, true, .nilf⟩ := tok (inf := Tryz.t244) Tryz.type244 rfl Tryz.underlying244 (⟨fun _ => nofun, fun _ _ => nofun⟩) rfl rfl rfl
theorem tok_246 : TOk Tryz.prog 246 ⟨.other, 1, 8, true, .nilf⟩ := tok (inf := Tryz.t246) Tryz.type246 rfl Tryz.underlying246 (⟨fun _ => nofun, fun _ _ => nofun⟩) rfl rfl rfl
theorem tok_247 : TOk Tryz.prog 247 ⟨.other, 1, 8, true, .nilf⟩ := tok (inf := Tryz.t247) Tryz.type247 rfl Tryz.underlying247 (⟨fun _ => nofun, fun _ _ => nofun⟩) rfl rfl rfl
theorem tok_248 : TOk Tryz.prog 248 ⟨.other, 1, 8, true, .nilf⟩ := tok (inf := Tryz.t248) Tryz.type248 rfl Tryz.underlying248 (⟨fun _ => nofun, fun _ _ => nofun⟩) rfl rfl rfl
theorem tok_249 : TOk Tryz.prog 249 ⟨.other, 1, 8, true, .nilf⟩ := tok (inf := Tryz.t249) Tryz.type249 rfl Tryz.underlying249 (⟨fun _ => nofun, fun _ _ => nofun⟩) rfl rfl rfl
theorem tok_250 : TOk Tryz.prog 250 ⟨.other, 1, 8, true, .nilf⟩ := tok (inf := Tryz.t250) Tryz.type250 rfl Tryz.underlying250 (⟨fun _ => nofun, fun _ _ => nofun⟩) rfl rfl rfl
theorem tok_251 : TOk Tryz.prog 251 ⟨.other, 1, 8, true, .nilf⟩ := tok (inf := Tryz.t251) Tryz.type251 rfl Tryz.underlying251 (⟨fun _ => nofun, fun _ _ => nofun⟩) rfl rfl rfl
theorem tok_252 : TOk Tryz.prog 252 ⟨.slice 4, 1, 24, true, .nils⟩ := tok (inf := Tryz.t252) Tryz.type252 rfl Tryz.underlying252 (rfl) rfl rfl rfl
theorem tok_254 : TOk Tryz.prog 254 ⟨.other, 1, 8, true, .nilf⟩ := tok (inf := Tryz.t254) Tryz.type254 rfl Tryz.underlying254 (⟨fun _ => nofun, fun _ _ => nofun⟩) rfl rfl rfl
theorem tok_256 : TOk Tryz.prog 256 ⟨.other, 1, 8, true, .nilf⟩ := tok (inf := Tryz.t256) Tryz.type256 rfl Tryz.underlying256 (⟨fun _ => nofun, fun _ _ => nofun⟩) rfl rfl rfl
theorem tok_257 : TOk Tryz.prog 257 ⟨.other, 1, 8, true, .nilf⟩ := tok (inf := Tryz.t257) Tryz.type257 rfl Tryz.underlying257 (⟨fun _ => nofun, fun _ _ => nofun⟩) rfl rfl rfl
theorem tok_258 : TOk Tryz.prog 258 ⟨.other, 1, 8, true, .nilf⟩ := tok (inf := Tryz.t258) Tryz.type258 rfl Tryz.underlying258 (⟨fun _ => nofun, fun _ _ => nofun⟩) rfl rfl rfl
theorem tok_259 : TOk Tryz.prog 259 ⟨.other, 1, 8, true, .nilf⟩ := tok (inf := Tryz.t259) Tryz.type259 rfl Tryz.underlying259 (⟨fun _ => nofun, fun _ _ => nofun⟩) rfl rfl rfl
theorem tok_260 : TOk Tryz.prog 260 ⟨.other, 1, 8, true, .nilf⟩ := tok (inf := Tryz.t260) Tryz.type260 rfl Tryz.underlying260 (⟨fun _ => nofun, fun _ _ => nofun⟩) rfl rfl rfl
theorem tok_261 : TOk Tryz.prog 261 ⟨.other, 1, 8, true, .nilf⟩ := tok (inf := Tryz.t261) Tryz.type261 rfl Tryz.underlying261 (⟨fun _ => nofun, fun _ _ => nofun⟩) rfl rfl rfl
theorem tok_262 : TOk Tryz.prog 262 ⟨.other, 1, 8, true, .nilf⟩ := tok (inf := Tryz.t262) Tryz.type262 rfl Tryz.underlying262 (⟨fun _ => nofun, fun _ _ => nofun⟩) rfl rfl rfl
theorem tok_263 : TOk Tryz.prog 263 ⟨.other, 1, 8, true, .nilf⟩ := tok (inf := Tryz.t263) Tryz.type263 rfl Tryz.underlying263 (⟨fun _ => nofun, fun _ _ => nofun⟩) rfl rfl rfl
theorem tok_264 : TOk Tryz.prog 264 ⟨.other, 1, 8, true, .nilf⟩ := tok (inf := Tryz.t264) Tryz.type264 rfl Tryz.underlying264 (⟨fun _ => nofun, fun _ _ => nofun⟩) rfl rfl rfl
theorem tok_265 : TOk Tryz.prog 265 ⟨.other, 1, 8, true, .nilf⟩ := tok (inf := Tryz.t265) Tryz.type265 rfl Tryz.underlying265 (⟨fun _ => nofun, fun _ _ => nofun⟩) rfl rfl rfl
theorem tok_266 : TOk Tryz.prog 266 ⟨.ptr 52, 1, 8, true, .nilp⟩ := tok (inf := Tryz.t266) Tryz.type266 rfl Tryz.underlying266 (rfl) rfl rfl rfl
theorem tok_267 : TOk Tryz.prog 267 ⟨.struct [(0, 240), (1, 240), (2, 3), (3, 3)], 4, 64, true, .agg [.nils, .nils, .z 0, .z 0]⟩ := tok (inf := Tryz.t267) Tryz.type267 rfl Tryz.underlying267 (fitS rfl ⟨⟨_, Tryz.type240, by decide⟩, ⟨_, Tryz.type240, by decide⟩, ⟨_, Tryz.type3, by decide⟩, ⟨_, Tryz.type3, by decide⟩, trivial⟩) rfl rfl rfl
theorem tok_268 : TOk Tryz.prog 268 ⟨.struct [(0, 240), (1, 240), (2, 3), (3, 3)], 4, 64, true, .agg [.nils, .nils, .z 0, .z 0]⟩ := tok (inf := Tryz.t268) Tryz.type268 rfl Tryz.underlying268 (fitS rfl ⟨⟨_, Tryz.type240, by decide⟩, ⟨_, Tryz.type240, by decide⟩, ⟨_, Tryz.type3, by decide⟩, ⟨_, Tryz.type3, by decide⟩, trivial⟩) rfl rfl rfl
theorem tok_269 : TOk Tryz.prog 269 ⟨.other, 1, 8, true, .nilf⟩ := tok (inf := Tryz.t269) Tryz.type269 rfl Tryz.underlying269 (⟨fun _ => nofun, fun _ _ => nofun⟩) rfl rfl rfl
theorem tok_271 : TOk Tryz.prog 271 ⟨.other, 1, 8, true, .nilf⟩ := tok (inf := Tryz.t271) Tryz.type271 rfl Tryz.underlying271 (⟨fun _ => nofun, fun _ _ => nofun⟩) rfl rfl rfl
theorem tok_272 : TOk Tryz.prog 272 ⟨.other, 1, 8, true, .nilf⟩ := tok (inf := Tryz.t272) Tryz.type272 rfl Tryz.underlying272 (⟨fun _ => nofun, fun _ _ => nofun⟩) rfl rfl rfl
theorem tok_273 : TOk Tryz.prog 273 ⟨.other, 1, 8, true, .nilf⟩ := tok (inf := Tryz.t273) Tryz.type273 rfl Tryz.underlying273 (⟨fun _ => nofun, fun _ _ => nofun⟩) rfl rfl rfl
theorem tok_274 : TOk Tryz.prog 274 ⟨.other, 1, 8, true, .nilf⟩ := tok (inf := Tryz.t274) Tryz.type274 rfl Tryz.underlying274 (⟨fun _ => nofun, fun _ _ => nofun⟩) rfl rfl rfl
theorem tok_275 : TOk Tryz.prog 275 ⟨.struct [(0, 240), (1, 240)], 2, 48, true, .agg [.nils, .nils]⟩ := tok (inf := Tryz.t275) Tryz.type275 rfl Tryz.underlying275 (fitS rfl ⟨⟨_, Tryz.type240, by decide⟩, ⟨_, Tryz.type240, by decide⟩, trivial⟩) rfl rfl rfl
theorem tok_276 : TOk Tryz.prog 276 ⟨.struct [(0, 240), (1, 240)], 2, 48, true, .agg [.nils, .nils]⟩ := tok (inf := Tryz.t276) Tryz.type276 rfl Tryz.underlying276 (fitS rfl ⟨⟨_, Tryz.type240, by decide⟩, ⟨_, Tryz.type240, by decide⟩, trivial⟩) rfl rfl rfl
theorem tok_277 : TOk Tryz.prog 277 ⟨.other, 1, 8, true, .nilf⟩ := tok (inf := Tryz.t277) Tryz.type277 rfl Tryz.underlying277 (⟨fun _ => nofun, fun _ _ => nofun⟩) rfl rfl rfl
theorem tok_279 : TOk Tryz.prog 279 ⟨.other, 1, 8, true, .nilf⟩ := tok (inf := Tryz.t279) Tryz.type279 rfl Tryz.underlying279 (⟨fun _ => nofun, fun _ _ => nofun⟩) rfl rfl rfl
theorem tok_280 : TOk Tryz.prog 280 ⟨.other, 1, 8, true, .nilf⟩ := tok (inf := Tryz.t280) Tryz.type280 rfl Tryz.underlying280 (⟨fun _ => nofun, fun _ _ => nofun⟩) rfl rfl rfl
theorem tok_281 : TOk Tryz.prog 281 ⟨.other, 1, 8, true, .nilf⟩ := tok (inf := Tryz.t281) Tryz.type281 rfl Tryz.underlying281 (⟨fun _ => nofun, fun _ _ => nofun⟩) rfl rfl rfl
theorem tok_282 : TOk Tryz.prog 282 ⟨.other, 1, 8, true, .nilf⟩ := tok (inf := Tryz.t282) Tryz.type282 rfl Tryz.underlying282 (⟨fun _ => nofun, fun _ _ => nofun⟩) rfl rfl rfl
theorem tok_283 : TOk Tryz.prog 283 ⟨.other, 1, 8, true, .nilf⟩ := tok (inf := Tryz.t283) Tryz.type283 rfl Tryz.underlying283 (⟨fun _ => nofun, fun _ _ => nofun⟩) rfl rfl rfl
theorem tok_284 : TOk Tryz.prog 284 ⟨.struct [(0, 42), (2, 42)], 4, 32, true, .agg [.n .u64 0, .n .u64 0, .n .u64 0, .n .u64 0]⟩ := tok (inf := Tryz.t284) Tryz.type284 rfl Tryz.underlying284 (fitS rfl ⟨⟨_, Tryz.type42, by decide⟩, ⟨_, Tryz.type42, by decide⟩, trivial⟩) rfl rfl rfl
theorem tok_285 : TOk Tryz.prog 285 ⟨.struct [(0, 42), (2, 42)], 4, 32, true, .agg [.n .u64 0, .n .u64 0, .n .u64 0, .n .u64 0]⟩ := tok (inf := Tryz.t285) Tryz.type285 rfl Tryz.underlying285 (fitS rfl ⟨⟨_, Tryz.type42, by decide⟩, ⟨_, Tryz.type42, by decide⟩, trivial⟩) rfl rfl rfl
theorem tok_286 : TOk Tryz.prog 286 ⟨.other, 1, 8, true, .nilf⟩ := tok (inf := Tryz.t286) Tryz.type286 rfl Tryz.underlying286 (⟨fun _ => nofun, fun _ _ => nofun⟩) rfl rfl rfl
theorem tok_287 : TOk Tryz.prog 287 ⟨.other, 1, 8, true, .nilf⟩ := tok (inf := Tryz.t287) Tryz.type287 rfl Tryz.underlying287 (⟨fun _ => nofun, fun _ _ => nofun⟩) rfl rfl rfl
theorem tok_288 : TOk Tryz.prog 288 ⟨.other, 1, 8, true, .nilf⟩ := tok (inf := Tryz.t288) Tryz.type288 rfl Tryz.underlying288 (⟨fun _ => nofun, fun _ _ => nofun⟩) rfl rfl rfl
theorem tok_289 : TOk Tryz.prog 289 ⟨.other, 1, 8, true, .nilf⟩ := tok (inf := Tryz.t289) Tryz.type289 rfl Tryz.underlying289 (⟨fun _ => nofun, fun _ _ => nofun⟩) rfl rfl rfl
theorem tok_290 : TOk Tryz.prog 290 ⟨.other, 1, 8, true, .nilf⟩ := tok (inf := Tryz.t290) Tryz.type290 rfl Tryz.underlying290 (⟨fun _ => nofun, fun _ _ => nofun⟩) rfl rfl rfl
theorem tok_291 : TOk Tryz.prog 291 ⟨.other, 1, 8, true, .nilf⟩ := tok (inf := Tryz.t291) Tryz.type291 rfl Tryz.underlying291 (⟨fun _ => nofun, fun _ _ => nofun⟩) rfl rfl rfl
theorem tok_292 : TOk Tryz.prog 292 ⟨.other, 1, 8, true, .nilf⟩ := tok (inf := Tryz.t292) Tryz.type292 rfl Tryz.underlying292 (⟨fun _ => nofun, fun _ _ => nofun⟩) rfl rfl rfl
theorem tok_293 : TOk Tryz.prog 293 ⟨.array 4 30, 4, 16, true, .agg [.n .u32 0, .n .u32 0, .n .u32 0, .n .u32 0]⟩ := tok (inf := Tryz.t293) Tryz.type293 rfl Tryz.underlying293 (rfl) rfl rfl rfl
theorem tok_294 : TOk Tryz.prog 294 ⟨.other, 1, 8, true, .nilf⟩ := tok (inf := Tryz.t294) Tryz.type294 rfl Tryz.underlying294 (⟨fun _ => nofun, fun _ _ => nofun⟩) rfl rfl rfl
theorem tok_295 : TOk Tryz.prog 295 ⟨.other, 1, 8, true, .nilf⟩ := tok (inf := Tryz.t295) Tryz.type295 rfl Tryz.underlying295 (⟨fun _ => nofun, fun _ _ => nofun⟩) rfl rfl rfl
theorem tok_296 : TOk Tryz.prog 296 ⟨.other, 1, 8, true, .nilf⟩ := tok (inf := Tryz.t296) Tryz.type296 rfl Tryz.underlying296 (⟨fun _ => nofun, fun _ _ => nofun⟩) rfl rfl rfl
theorem tok_297 : TOk Tryz.prog 297 ⟨.map 4 22, 1, 8, true, .nilm⟩ := tok (inf := Tryz.t297) Tryz.type297 rfl Tryz.underlying297 (rfl) rfl rfl rfl
theorem tok_299 : TOk Tryz.prog 299 ⟨.other, 1, 8, true, .nilf⟩ := tok (inf := Tryz.t299) Tryz.type299 rfl Tryz.underlying299 (⟨fun _ => nofun, fun _ _ => nofun⟩) rfl rfl rfl
theorem tok_300 : TOk Tryz.prog 300 ⟨.slice 305, 1, 24, true, .nils⟩ := tok (inf := Tryz.t300) Tryz.type300 rfl Tryz.underlying300 (rfl) rfl rfl rfl
theorem tok_302 : TOk Tryz.prog 302 ⟨.other, 1, 8, true, .nilf⟩ := tok (inf := Tryz.t302) Tryz.type302 rfl Tryz.underlying302 (⟨fun _ => nofun, fun _ _ => nofun⟩) rfl rfl rfl
theorem tok_303 : TOk Tryz.prog 303 ⟨.other, 1, 8, true, .nilf⟩ := tok (inf := Tryz.t303) Tryz.type303 rfl Tryz.underlying303 (⟨fun _ => nofun, fun _ _ => nofun⟩) rfl rfl rfl
theorem tok_304 : TOk Tryz.prog 304 ⟨.struct [(0, 303), (1, 303)], 2, 16, true, .agg [.nilf, .nilf]⟩ := tok (inf := Tryz.t304) Tryz.type304 rfl Tryz.underlying304 (fitS rfl ⟨⟨_, Tryz.type303, by decide⟩, ⟨_, Tryz.type303, by decide⟩, trivial⟩) rfl rfl rfl
theorem tok_305 : TOk Tryz.prog 305 ⟨.struct [(0, 303), (1, 303)], 2, 16, true, .agg [.nilf, .nilf]⟩ := tok (inf := Tryz.t305) Tryz.type305 rfl Tryz.underlying305 (fitS rfl ⟨⟨_, Tryz.type303, by decide⟩, ⟨_, Tryz.type303, by decide⟩, trivial⟩) rfl rfl rfl
theorem tok_306 : TOk Tryz.prog 306 ⟨.other, 1, 8, true, .nilf⟩ := tok (inf := Tryz.t306) Tryz.type306 rfl Tryz.underlying306 (⟨fun _ => nofun, fun _ _ => nofun⟩) rfl rfl rfl
theorem tok_307 : TOk Tryz.prog 307 ⟨.other, 1, 8, true, .nilf⟩ := tok (inf := Tryz.t307) Tryz.type307 rfl Tryz.underlying307 (⟨fun _ => nofun, fun _ _ => nofun⟩) rfl rfl rfl
theorem tok_308 : TOk Tryz.prog 308 ⟨.struct [(0, 9)], 1, 16, true, .agg [.s ByteArray.empty]⟩ := tok (inf := Tryz.t308) Tryz.type308 rfl Tryz.underlying308 (fitS rfl ⟨⟨_, Tryz.type9, by decide⟩, trivial⟩) rfl rfl rfl
theorem tok_309 : TOk Tryz.prog 309 ⟨.struct [(0, 9)], 1, 16, true, .agg [.s ByteArray.empty]⟩ := tok (inf := Tryz.t309) Tryz.type309 rfl Tryz.underlying309 (fitS rfl ⟨⟨_, Tryz.type9, by decide⟩, trivial⟩) rfl rfl rfl
theorem table_ok : Table.Ok Tryz.prog table :=
  .cons tok_1 (.cons tok_2 (.cons tok_3 (.cons tok_4 (.cons tok_5 (.cons tok_9 (.cons tok_12 (.cons tok_20 (.cons tok_22 (.cons tok_23 (.cons tok_24 (.cons tok_25 (.cons tok_26 (.cons tok_27 (.cons tok_28 (.cons tok_29 (.cons tok_30 (.cons tok_31 (.cons tok_32 (.cons tok_33 (.cons tok_34 (.cons tok_35 (.cons tok_36 (.cons tok_38 (.cons tok_39 (.cons tok_41 (.cons tok_42 (.cons tok_43 (.cons tok_45 (.cons tok_46 (.cons tok_47 (.cons tok_48 (.cons tok_49 (.cons tok_50 (.cons tok_51 (.cons tok_52 (.cons tok_53 (.cons tok_54 (.cons tok_55 (.cons tok_56 (.cons tok_57 (.cons tok_58 (.cons tok_59 (.cons tok_60 (.cons tok_61 (.cons tok_62 (.cons tok_64 (.cons tok_65 (.cons tok_66 (.cons tok_67 (.cons tok_68 (.cons tok_69 (.cons tok_70 (.cons tok_71 (.cons tok_72 (.cons tok_73 (.cons tok_75 (.cons tok_76 (.cons tok_78 (.cons tok_79 (.cons tok_80 (.cons tok_81 (.cons tok_82 (.cons tok_83 (.cons tok_84 (.cons tok_85 (.cons tok_86 (.cons tok_88 (.cons tok_89 (.cons tok_90 (.cons tok_91 (.cons tok_92 (.cons tok_93 (.cons tok_94 (.cons tok_95 (.cons tok_96 (.cons tok_98 (.cons tok_99 (.cons tok_100 (.cons tok_101 (.cons tok_102 (.cons tok_103 (.cons tok_105 (.cons tok_106 (.cons tok_107 (.cons tok_108 (.cons tok_109 (.cons tok_111 (.cons tok_112 (.cons tok_114 (.cons tok_115 (.cons tok_116 (.cons tok_117 (.cons tok_119 (.cons tok_120 (.cons tok_122 (.cons tok_123 (.cons tok_124 (.cons tok_125 (.cons tok_126 (.cons tok_127 (.cons tok_128 (.cons tok_129 (.cons tok_130 (.cons tok_131 (.cons tok_132 (.cons tok_133 (.cons tok_134 (.cons tok_135 (.cons tok_136 (.cons tok_137 (.cons tok_138 (.cons tok_139 (.cons tok_140 (.cons tok_141 (.cons tok_142 (.cons tok_143 (.cons tok_145 (.cons tok_147 (.cons tok_148 (.cons tok_149 (.cons tok_150 (.cons tok_151 (.cons tok_152 (.cons tok_153 (.cons tok_154 (.cons tok_155 (.cons tok_156 (.cons tok_157 (.cons tok_159 (.cons tok_160 (.cons tok_161 (.cons tok_162 (.cons tok_163 (.cons tok_164 (.cons tok_165 (.cons tok_166 (.cons tok_167 (.cons tok_168 (.cons tok_169 (.cons tok_170 (.cons tok_171 (.cons tok_173 (.cons tok_174 (.cons tok_175 (.cons tok_176 (.cons tok_177 (.cons tok_178 (.cons tok_179 (.cons tok_180 (.cons tok_181 (.cons tok_182 (.cons tok_183 (.cons tok_184 (.cons tok_185 (.cons tok_186 (.cons tok_187 (.cons tok_188 (.cons tok_189 (.cons tok_190 (.cons tok_191 (.cons tok_192 (.cons tok_194 (.cons tok_195 (.cons tok_196 (.cons tok_197 (.cons tok_198 (.cons tok_199 (.cons tok_200 (.cons tok_201 (.cons tok_202 (.cons tok_203 (.cons tok_204 (.cons tok_205 (.cons tok_206 (.cons tok_207 (.cons tok_208 (.cons tok_209 (.cons tok_210 (.cons tok_211 (.cons tok_212 (.cons tok_213 (.cons tok_214 (.cons tok_215 (.cons tok_216 (.cons tok_225 (.cons tok_230 (.cons tok_231 (.cons tok_232 (.cons tok_233 (.cons tok_235 (.cons tok_236 (.cons tok_237 (.cons tok_238 (.cons tok_239 (.cons tok_240 (.cons tok_241 (.cons tok_242 (.cons tok_243 (.cons tok_244 (.cons tok_246 (.cons tok_247 (.cons tok_248 (.cons tok_249 (.cons tok_250 (.cons tok_251 (.cons tok_252 (.cons tok_254 (.cons tok_256 (.cons tok_257 (.cons tok_258 (.cons tok_259 (.cons tok_260 (.cons tok_261 (.cons tok_262 (.cons tok_263 (.cons tok_264 (.cons tok_265 (.cons tok_266 (.cons tok_267 (.cons tok_268 (.cons tok_269 (.cons tok_271 (.cons tok_272 (.cons tok_273 (.cons tok_274 (.cons tok_275 (.cons tok_276 (.cons tok_277 (.cons tok_279 (.cons tok_280 (.cons tok_281 (.cons tok_282 (.cons tok_283 (.cons tok_284 (.cons tok_285 (.cons tok_286 (.cons tok_287 (.cons tok_288 (.cons tok_289 (.cons tok_290 (.cons tok_291 (.cons tok_292 (.cons tok_293 (.cons tok_294 (.cons tok_295 (.cons tok_296 (.cons tok_297 (.cons tok_299 (.cons tok_300 (.cons tok_302 (.cons tok_303 (.cons tok_304 (.cons tok_305 (.cons tok_306 (.cons tok_307 (.cons tok_308 (.cons tok_309 .nil)))))))))))))))))))))))))))))))))))))))))))))))))))))))))))))))))))))))))))))))))))))))))))))))))))))))))))))))))))))))))))))))))))))))))))))))))))))))))))))))))))))))))))))))))))))))))))))))))))))))))))))))))))))))))))))))))))))))))))))))))))))))))))))))))
def eqTable : List (TypeId × List CK) := [(25, [.i .u64, .i .u64, .i .u64, .i .u64]), (27, [.i .u64, .i .u64]), (29, [.i .u64, .i .u64, .i .u64, .i .u64]), (33, [.i .u64, .i .u64, .i .u32, .i .u32, .b]), (35, [.i .i64, .i .u64, .i .u64, .i .u64, .i .u64, .i .u64, .i .u64, .i .u64, .i .u64, .i .u64, .i .u64, .i .u64, .i .u32, .i .u32, .b]), (42, [.i .u64, .i .u64]), (52, [.i .u64, .i .u64, .i .u64, .i .u64]), (59, [.i .i64, .i .u64, .i .u64, .i .u64, .i .u64, .i .u64, .i .u64, .i .u64, .i .u64, .i .u64, .i .u64, .i .u64, .i .u32, .i .u32, .b]), (84, [.i .u64, .i .u64, .i .u64, .i .u64])]
def E : TypeId → Option (List CK) := eqGet eqTable
@[go_sem] theorem E_25 : E 25 = some [.i .u64, .i .u64, .i .u64, .i .u64] := rfl
@[go_sem] theorem E_27 : E 27 = some [.i .u64, .i .u64] := rfl
@[go_sem] theorem E_29 : E 29 = some [.i .u64, .i .u64, .i .u64, .i .u64] := rfl
@[go_sem] theorem E_33 : E 33 = some [.i .u64, .i .u64, .i .u32, .i .u32, .b] := rfl
@[go_sem] theorem E_35 : E 35 = some [.i .i64, .i .u64, .i .u64, .i .u64, .i .u64, .i .u64, .i .u64, .i .u64, .i .u64, .i .u64, .i .u64, .i .u64, .i .u32, .i .u32, .b] := rfl
@[go_sem] theorem E_42 : E 42 = some [.i .u64, .i .u64] := rfl
@[go_sem] theorem E_52 : E 52 = some [.i .u64, .i .u64, .i .u64, .i .u64] := rfl
@[go_sem] theorem E_59 : E 59 = some [.i .i64, .i .u64, .i .u64, .i .u64, .i .u64, .i .u64, .i .u64, .i .u64, .i .u64, .i .u64, .i .u64, .i .u64, .i .u32, .i .u32, .b] := rfl
@[go_sem] theorem E_84 : E 84 = some [.i .u64, .i .u64, .i .u64, .i .u64] := rfl
theorem eq_25 : PlainEq Tryz.prog 25 [.i .u64, .i .u64, .i .u64, .i .u64] := plainEq_kinds (m := 3) (D := 3) (by omega) (by kernel_rfl) (by kernel_rfl) (by kernel_rfl) (by kernel_rfl)
theorem eq_27 : PlainEq Tryz.prog 27 [.i .u64, .i .u64] := plainEq_kinds (m := 3) (D := 3) (by omega) (by kernel_rfl) (by kernel_rfl) (by kernel_rfl) (by kernel_rfl)
theorem eq_29 : PlainEq Tryz.prog 29 [.i .u64, .i .u64, .i .u64, .i .u64] := plainEq_kinds (m := 4) (D := 4) (by omega) (by kernel_rfl) (by kernel_rfl) (by kernel_rfl) (by kernel_rfl)
theorem eq_33 : PlainEq Tryz.prog 33 [.i .u64, .i .u64, .i .u32, .i .u32, .b] := plainEq_kinds (m := 4) (D := 4) (by omega) (by kernel_rfl) (by kernel_rfl) (by kernel_rfl) (by kernel_rfl)
theorem eq_35 : PlainEq Tryz.prog 35 [.i .i64, .i .u64, .i .u64, .i .u64, .i .u64, .i .u64, .i .u64, .i .u64, .i .u64, .i .u64, .i .u64, .i .u64, .i .u32, .i .u32, .b] := plainEq_kinds (m := 5) (D := 5) (by omega) (by kernel_rfl) (by kernel_rfl) (by kernel_rfl) (by kernel_rfl)
theorem eq_42 : PlainEq Tryz.prog 42 [.i .u64, .i .u64] := plainEq_kinds (m := 3) (D := 3) (by omega) (by kernel_rfl) (by kernel_rfl) (by kernel_rfl) (by kernel_rfl)
theorem eq_52 : PlainEq Tryz.prog 52 [.i .u64, .i .u64, .i .u64, .i .u64] := plainEq_kinds (m := 3) (D := 3) (by omega) (by kernel_rfl) (by kernel_rfl) (by kernel_rfl) (by kernel_rfl)
theorem eq_59 : PlainEq Tryz.prog 59 [.i .i64, .i .u64, .i .u64, .i .u64, .i .u64, .i .u64, .i .u64, .i .u64, .i .u64, .i .u64, .i .u64, .i .u64, .i .u32, .i .u32, .b] := plainEq_kinds (m := 5) (D := 5) (by omega) (by kernel_rfl) (by kernel_rfl) (by kernel_rfl) (by kernel_rfl)
theorem eq_84 : PlainEq Tryz.prog 84 [.i .u64, .i .u64, .i .u64, .i .u64] := plainEq_kinds (m := 4) (D := 4) (by omega) (by kernel_rfl) (by kernel_rfl) (by kernel_rfl) (by kernel_rfl)
theorem eqs_ok : EqRows Tryz.prog eqTable :=
  .cons eq_25 (.cons eq_27 (.cons eq_29 (.cons eq_33 (.cons eq_35 (.cons eq_42 (.cons eq_52 (.cons eq_59 (.cons eq_84 (.nil)))))))))
end Go.Proofs.YteomkgcepiecjaaGreat.I
