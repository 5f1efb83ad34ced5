/- The seat's types, as rows. Printed by a program. -/
import Derived.Test.YtggpbjhmpipplaaGreatProg
import Derived.Test.YtggpbjhmpipplaaGreatM2
import Derived.KernelRfl
namespace Go.Proofs.YtggpbjhmpipplaaGreat.I
open Go
set_option maxRecDepth 20000

def table : Table := [
  (1, ⟨.other, 1, 8, true, .nilf⟩),
  (2, ⟨.int .i64, 1, 8, true, .z 0⟩),
  (3, ⟨.int .i64, 1, 8, true, .z 0⟩),
  (4, ⟨.bool, 1, 1, true, .b false⟩),
  (5, ⟨.int .u8, 1, 1, true, .n .u8 0⟩),
  (9, ⟨.string, 1, 16, true, .s ByteArray.empty⟩),
  (12, ⟨.int .u64, 1, 8, true, .n .u64 0⟩),
  (20, ⟨.iface, 1, 16, false, .nili⟩),
  (22, ⟨.int .u64, 1, 8, true, .n .u64 0⟩),
  (23, ⟨.other, 1, 8, true, .nilf⟩),
  (24, ⟨.array 4 22, 4, 32, true, .agg [.n .u64 0, .n .u64 0, .n .u64 0, .n .u64 0]⟩),
  (25, ⟨.array 4 22, 4, 32, true, .agg [.n .u64 0, .n .u64 0, .n .u64 0, .n .u64 0]⟩),
  (26, ⟨.struct [(0, 22), (1, 22)], 2, 16, true, .agg [.n .u64 0, .n .u64 0]⟩),
  (27, ⟨.struct [(0, 22), (1, 22)], 2, 16, true, .agg [.n .u64 0, .n .u64 0]⟩),
  (28, ⟨.struct [(0, 27), (2, 27)], 4, 32, true, .agg [.n .u64 0, .n .u64 0, .n .u64 0, .n .u64 0]⟩),
  (29, ⟨.struct [(0, 27), (2, 27)], 4, 32, true, .agg [.n .u64 0, .n .u64 0, .n .u64 0, .n .u64 0]⟩),
  (30, ⟨.int .u32, 1, 4, true, .n .u32 0⟩),
  (31, ⟨.array 2 30, 2, 8, true, .agg [.n .u32 0, .n .u32 0]⟩),
  (32, ⟨.array 2 30, 2, 8, true, .agg [.n .u32 0, .n .u32 0]⟩),
  (33, ⟨.struct [(0, 27), (2, 32), (4, 4)], 5, 32, true, .agg [.n .u64 0, .n .u64 0, .n .u32 0, .n .u32 0, .b false]⟩),
  (34, ⟨.struct [(0, 27), (2, 32), (4, 4)], 5, 32, true, .agg [.n .u64 0, .n .u64 0, .n .u32 0, .n .u32 0, .b false]⟩),
  (35, ⟨.struct [(0, 3), (1, 22), (2, 25), (6, 29), (10, 34)], 15, 112, true, .agg [.z 0, .n .u64 0, .n .u64 0, .n .u64 0, .n .u64 0, .n .u64 0, .n .u64 0, .n .u64 0, .n .u64 0, .n .u64 0, .n .u64 0, .n .u64 0, .n .u32 0, .n .u32 0, .b false]⟩),
  (36, ⟨.struct [(0, 3), (1, 22), (2, 25), (6, 29), (10, 34)], 15, 112, true, .agg [.z 0, .n .u64 0, .n .u64 0, .n .u64 0, .n .u64 0, .n .u64 0, .n .u64 0, .n .u64 0, .n .u64 0, .n .u64 0, .n .u64 0, .n .u64 0, .n .u32 0, .n .u32 0, .b false]⟩),
  (37, ⟨.int .i64, 1, 8, true, .z 0⟩),
  (39, ⟨.other, 1, 8, true, .nilf⟩),
  (40, ⟨.struct [(0, 22), (1, 22)], 2, 16, true, .agg [.n .u64 0, .n .u64 0]⟩),
  (41, ⟨.struct [(0, 40), (2, 40)], 4, 32, true, .agg [.n .u64 0, .n .u64 0, .n .u64 0, .n .u64 0]⟩),
  (42, ⟨.struct [(0, 40), (2, 40)], 4, 32, true, .agg [.n .u64 0, .n .u64 0, .n .u64 0, .n .u64 0]⟩),
  (43, ⟨.struct [(0, 40), (2, 31), (4, 4)], 5, 32, true, .agg [.n .u64 0, .n .u64 0, .n .u32 0, .n .u32 0, .b false]⟩),
  (44, ⟨.struct [(0, 40), (2, 31), (4, 4)], 5, 32, true, .agg [.n .u64 0, .n .u64 0, .n .u32 0, .n .u32 0, .b false]⟩),
  (45, ⟨.struct [(0, 3), (1, 22), (2, 24), (6, 42), (10, 44)], 15, 112, true, .agg [.z 0, .n .u64 0, .n .u64 0, .n .u64 0, .n .u64 0, .n .u64 0, .n .u64 0, .n .u64 0, .n .u64 0, .n .u64 0, .n .u64 0, .n .u64 0, .n .u32 0, .n .u32 0, .b false]⟩),
  (46, ⟨.struct [(0, 3), (1, 22), (2, 24), (6, 42), (10, 44)], 15, 112, true, .agg [.z 0, .n .u64 0, .n .u64 0, .n .u64 0, .n .u64 0, .n .u64 0, .n .u64 0, .n .u64 0, .n .u64 0, .n .u64 0, .n .u64 0, .n .u64 0, .n .u32 0, .n .u32 0, .b false]⟩),
  (48, ⟨.other, 1, 8, true, .nilf⟩),
  (49, ⟨.other, 1, 8, true, .nilf⟩),
  (50, ⟨.other, 1, 8, true, .nilf⟩),
  (51, ⟨.slice 22, 1, 24, true, .nils⟩),
  (53, ⟨.other, 1, 8, true, .nilf⟩),
  (54, ⟨.other, 1, 8, true, .nilf⟩),
  (55, ⟨.other, 1, 8, true, .nilf⟩),
  (56, ⟨.other, 1, 8, true, .nilf⟩),
  (57, ⟨.other, 1, 8, true, .nilf⟩),
  (58, ⟨.other, 1, 8, true, .nilf⟩),
  (59, ⟨.other, 1, 8, true, .nilf⟩),
  (60, ⟨.other, 1, 8, true, .nilf⟩),
  (61, ⟨.other, 1, 8, true, .nilf⟩),
  (62, ⟨.other, 1, 8, true, .nilf⟩),
  (63, ⟨.other, 1, 8, true, .nilf⟩),
  (64, ⟨.other, 1, 8, true, .nilf⟩),
  (65, ⟨.other, 1, 8, true, .nilf⟩),
  (67, ⟨.other, 1, 8, true, .nilf⟩),
  (68, ⟨.other, 1, 8, true, .nilf⟩),
  (69, ⟨.other, 1, 8, true, .nilf⟩),
  (70, ⟨.slice 5, 1, 24, true, .nils⟩),
  (72, ⟨.other, 1, 8, true, .nilf⟩),
  (73, ⟨.other, 1, 8, true, .nilf⟩),
  (75, ⟨.other, 1, 8, true, .nilf⟩),
  (76, ⟨.other, 1, 8, true, .nilf⟩),
  (77, ⟨.other, 1, 8, true, .nilf⟩),
  (78, ⟨.other, 1, 8, true, .nilf⟩),
  (79, ⟨.other, 1, 8, true, .nilf⟩),
  (80, ⟨.other, 1, 8, true, .nilf⟩),
  (81, ⟨.other, 1, 8, true, .nilf⟩),
  (83, ⟨.other, 1, 8, true, .nilf⟩),
  (85, ⟨.other, 1, 8, true, .nilf⟩),
  (86, ⟨.other, 1, 8, true, .nilf⟩),
  (87, ⟨.other, 1, 8, true, .nilf⟩),
  (88, ⟨.other, 1, 8, true, .nilf⟩),
  (89, ⟨.other, 1, 8, true, .nilf⟩),
  (90, ⟨.other, 1, 8, true, .nilf⟩),
  (91, ⟨.struct [(0, 3), (1, 90)], 2, 16, true, .agg [.z 0, .nilf]⟩),
  (92, ⟨.struct [(0, 3), (1, 90)], 2, 16, true, .agg [.z 0, .nilf]⟩),
  (93, ⟨.array 4 92, 8, 64, true, .agg [.z 0, .nilf, .z 0, .nilf, .z 0, .nilf, .z 0, .nilf]⟩),
  (94, ⟨.other, 1, 8, true, .nilf⟩),
  (96, ⟨.other, 1, 8, true, .nilf⟩),
  (97, ⟨.other, 1, 8, true, .nilf⟩),
  (98, ⟨.other, 1, 8, true, .nilf⟩),
  (99, ⟨.other, 1, 8, true, .nilf⟩),
  (100, ⟨.iface, 1, 16, false, .nili⟩),
  (101, ⟨.iface, 1, 16, false, .nili⟩),
  (102, ⟨.other, 1, 8, true, .nilf⟩),
  (103, ⟨.other, 1, 8, true, .nilf⟩),
  (104, ⟨.other, 1, 8, true, .nilf⟩),
  (105, ⟨.other, 1, 8, true, .nilf⟩),
  (106, ⟨.other, 1, 8, true, .nilf⟩),
  (107, ⟨.other, 1, 8, true, .nilf⟩),
  (109, ⟨.other, 1, 8, true, .nilf⟩),
  (110, ⟨.other, 1, 8, true, .nilf⟩),
  (111, ⟨.other, 1, 8, true, .nilf⟩),
  (112, ⟨.other, 1, 8, true, .nilf⟩),
  (113, ⟨.other, 1, 8, true, .nilf⟩),
  (114, ⟨.other, 1, 8, true, .nilf⟩),
  (115, ⟨.other, 1, 8, true, .nilf⟩),
  (116, ⟨.other, 1, 8, true, .nilf⟩),
  (117, ⟨.other, 1, 8, true, .nilf⟩),
  (118, ⟨.other, 1, 8, true, .nilf⟩),
  (120, ⟨.other, 1, 8, true, .nilf⟩),
  (121, ⟨.slice 3, 1, 24, true, .nils⟩),
  (122, ⟨.other, 1, 8, true, .nilf⟩),
  (124, ⟨.other, 1, 8, true, .nilf⟩),
  (125, ⟨.int .u64, 1, 8, true, .n .u64 0⟩),
  (126, ⟨.struct [], 0, 0, true, .agg []⟩),
  (127, ⟨.struct [], 0, 0, true, .agg []⟩),
  (128, ⟨.struct [], 0, 0, true, .agg []⟩),
  (129, ⟨.struct [], 0, 0, true, .agg []⟩),
  (130, ⟨.struct [], 0, 0, true, .agg []⟩),
  (131, ⟨.other, 1, 8, true, .nilf⟩),
  (132, ⟨.other, 1, 8, true, .nilf⟩),
  (133, ⟨.other, 1, 8, true, .nilf⟩),
  (134, ⟨.array 4 30, 4, 16, true, .agg [.n .u32 0, .n .u32 0, .n .u32 0, .n .u32 0]⟩),
  (135, ⟨.other, 1, 8, true, .nilf⟩),
  (136, ⟨.other, 1, 8, true, .nilf⟩),
  (138, ⟨.other, 1, 8, true, .nilf⟩),
  (139, ⟨.other, 1, 8, true, .nilf⟩),
  (140, ⟨.other, 1, 8, true, .nilf⟩),
  (141, ⟨.other, 1, 8, true, .nilf⟩),
  (142, ⟨.other, 1, 8, true, .nilf⟩),
  (143, ⟨.other, 1, 8, true, .nilf⟩),
  (144, ⟨.other, 1, 8, true, .nilf⟩),
  (145, ⟨.other, 1, 8, true, .nilf⟩),
  (146, ⟨.other, 1, 8, true, .nilf⟩),
  (147, ⟨.struct [(0, 3), (1, 22), (2, 22)], 3, 24, true, .agg [.z 0, .n .u64 0, .n .u64 0]⟩),
  (148, ⟨.struct [(0, 3), (1, 22), (2, 22)], 3, 24, true, .agg [.z 0, .n .u64 0, .n .u64 0]⟩),
  (149, ⟨.array 3 148, 9, 72, true, .agg [.z 0, .n .u64 0, .n .u64 0, .z 0, .n .u64 0, .n .u64 0, .z 0, .n .u64 0, .n .u64 0]⟩),
  (150, ⟨.other, 1, 8, true, .nilf⟩),
  (151, ⟨.other, 1, 8, true, .nilf⟩),
  (160, ⟨.ptr 5, 1, 8, true, .nilp⟩),
  (165, ⟨.other, 1, 8, true, .nilf⟩),
  (166, ⟨.other, 1, 8, true, .nilf⟩),
  (167, ⟨.other, 1, 8, true, .nilf⟩),
  (168, ⟨.other, 1, 8, true, .nilf⟩),
  (169, ⟨.other, 1, 8, true, .nilf⟩),
  (171, ⟨.other, 1, 8, true, .nilf⟩),
  (172, ⟨.other, 1, 8, true, .nilf⟩),
  (173, ⟨.other, 1, 8, true, .nilf⟩),
  (174, ⟨.other, 1, 8, true, .nilf⟩),
  (175, ⟨.other, 1, 8, true, .nilf⟩),
  (176, ⟨.slice 22, 1, 24, true, .nils⟩),
  (177, ⟨.other, 1, 8, true, .nilf⟩),
  (178, ⟨.other, 1, 8, true, .nilf⟩),
  (179, ⟨.other, 1, 8, true, .nilf⟩),
  (180, ⟨.other, 1, 8, true, .nilf⟩),
  (182, ⟨.other, 1, 8, true, .nilf⟩),
  (183, ⟨.other, 1, 8, true, .nilf⟩),
  (184, ⟨.other, 1, 8, true, .nilf⟩),
  (185, ⟨.other, 1, 8, true, .nilf⟩),
  (186, ⟨.other, 1, 8, true, .nilf⟩),
  (187, ⟨.other, 1, 8, true, .nilf⟩),
  (188, ⟨.other, 1, 8, true, .nilf⟩),
  (189, ⟨.slice 4, 1, 24, true, .nils⟩),
  (191, ⟨.other, 1, 8, true, .nilf⟩),
  (193, ⟨.other, 1, 8, true, .nilf⟩),
  (194, ⟨.other, 1, 8, true, .nilf⟩),
  (195, ⟨.other, 1, 8, true, .nilf⟩),
  (196, ⟨.other, 1, 8, true, .nilf⟩),
  (197, ⟨.other, 1, 8, true, .nilf⟩),
  (198, ⟨.other, 1, 8, true, .nilf⟩),
  (199, ⟨.other, 1, 8, true, .nilf⟩),
  (200, ⟨.other, 1, 8, true, .nilf⟩),
  (201, ⟨.other, 1, 8, true, .nilf⟩),
  (202, ⟨.other, 1, 8, true, .nilf⟩),
  (203, ⟨.ptr 25, 1, 8, true, .nilp⟩),
  (204, ⟨.struct [(0, 176), (1, 176), (2, 3), (3, 3)], 4, 64, true, .agg [.nils, .nils, .z 0, .z 0]⟩),
  (205, ⟨.struct [(0, 176), (1, 176), (2, 3), (3, 3)], 4, 64, true, .agg [.nils, .nils, .z 0, .z 0]⟩),
  (206, ⟨.other, 1, 8, true, .nilf⟩),
  (208, ⟨.other, 1, 8, true, .nilf⟩),
  (209, ⟨.other, 1, 8, true, .nilf⟩),
  (210, ⟨.other, 1, 8, true, .nilf⟩),
  (211, ⟨.other, 1, 8, true, .nilf⟩),
  (212, ⟨.struct [(0, 176), (1, 176)], 2, 48, true, .agg [.nils, .nils]⟩),
  (213, ⟨.struct [(0, 176), (1, 176)], 2, 48, true, .agg [.nils, .nils]⟩),
  (214, ⟨.other, 1, 8, true, .nilf⟩),
  (216, ⟨.other, 1, 8, true, .nilf⟩),
  (217, ⟨.other, 1, 8, true, .nilf⟩),
  (218, ⟨.other, 1, 8, true, .nilf⟩),
  (219, ⟨.other, 1, 8, true, .nilf⟩),
  (220, ⟨.other, 1, 8, true, .nilf⟩),
  (221, ⟨.other, 1, 8, true, .nilf⟩),
  (222, ⟨.struct [(0, 27), (2, 27)], 4, 32, true, .agg [.n .u64 0, .n .u64 0, .n .u64 0, .n .u64 0]⟩),
  (223, ⟨.struct [(0, 27), (2, 27)], 4, 32, true, .agg [.n .u64 0, .n .u64 0, .n .u64 0, .n .u64 0]⟩),
  (224, ⟨.other, 1, 8, true, .nilf⟩),
  (225, ⟨.other, 1, 8, true, .nilf⟩),
  (226, ⟨.other, 1, 8, true, .nilf⟩),
  (227, ⟨.other, 1, 8, true, .nilf⟩),
  (228, ⟨.other, 1, 8, true, .nilf⟩),
  (229, ⟨.other, 1, 8, true, .nilf⟩),
  (230, ⟨.other, 1, 8, true, .nilf⟩),
  (231, ⟨.array 4 30, 4, 16, true, .agg [.n .u32 0, .n .u32 0, .n .u32 0, .n .u32 0]⟩),
  (232, ⟨.other, 1, 8, true, .nilf⟩),
  (233, ⟨.other, 1, 8, true, .nilf⟩),
  (234, ⟨.other, 1, 8, true, .nilf⟩),
  (235, ⟨.map 4 22, 1, 8, true, .nilm⟩),
  (237, ⟨.other, 1, 8, true, .nilf⟩),
  (238, ⟨.slice 243, 1, 24, true, .nils⟩),
  (240, ⟨.other, 1, 8, true, .nilf⟩),
  (241, ⟨.other, 1, 8, true, .nilf⟩),
  (242, ⟨.struct [(0, 241), (1, 241)], 2, 16, true, .agg [.nilf, .nilf]⟩),
  (243, ⟨.struct [(0, 241), (1, 241)], 2, 16, true, .agg [.nilf, .nilf]⟩),
  (244, ⟨.other, 1, 8, true, .nilf⟩),
  (245, ⟨.other, 1, 8, true, .nilf⟩)]

def T : TypeId → Option TI := table.get
@[go_sem] theorem T_1 : T 1 = some ⟨.other, 1, 8, true, .nilf⟩ := rfl   -- func()
@[go_sem] theorem T_2 : T 2 = some ⟨.int .i64, 1, 8, true, .z 0⟩ := rfl   -- int64
@[go_sem] theorem T_3 : T 3 = some ⟨.int .i64, 1, 8, true, .z 0⟩ := rfl   -- int
@[go_sem] theorem T_4 : T 4 = some ⟨.bool, 1, 1, true, .b false⟩ := rfl   -- bool
@[go_sem] theorem T_5 : T 5 = some ⟨.int .u8, 1, 1, true, .n .u8 0⟩ := rfl   -- uint8
@[go_sem] theorem T_9 : T 9 = some ⟨.string, 1, 16, true, .s ByteArray.empty⟩ := rfl   -- string
@[go_sem] theorem T_12 : T 12 = some ⟨.int .u64, 1, 8, true, .n .u64 0⟩ := rfl   -- uintptr
@[go_sem] theorem T_20 : T 20 = some ⟨.iface, 1, 16, false, .nili⟩ := rfl   -- interface {}
@[go_sem] theorem T_22 : T 22 = some ⟨.int .u64, 1, 8, true, .n .u64 0⟩ := rfl   -- uint64
@[go_sem] theorem T_23 : T 23 = some ⟨.other, 1, 8, true, .nilf⟩ := rfl   -- func() bool
@[go_sem] theorem T_24 : T 24 = some ⟨.array 4 22, 4, 32, true, .agg [.n .u64 0, .n .u64 0, .n .u64 0, .n .u64 0]⟩ := rfl   -- [4]uint64
@[go_sem] theorem T_25 : T 25 = some ⟨.array 4 22, 4, 32, true, .agg [.n .u64 0, .n .u64 0, .n .u64 0, .n .u64 0]⟩ := rfl   -- xosh.State
@[go_sem] theorem T_26 : T 26 = some ⟨.struct [(0, 22), (1, 22)], 2, 16, true, .agg [.n .u64 0, .n .u64 0]⟩ := rfl   -- struct { Hi uint64; Lo uint64 }
@[go_sem] theorem T_27 : T 27 = some ⟨.struct [(0, 22), (1, 22)], 2, 16, true, .agg [.n .u64 0, .n .u64 0]⟩ := rfl   -- wide.U128
@[go_sem] theorem T_28 : T 28 = some ⟨.struct [(0, 27), (2, 27)], 4, 32, true, .agg [.n .u64 0, .n .u64 0, .n .u64 0, .n .u64 0]⟩ := rfl   -- struct { S wide.U128; I wide.U128 }
@[go_sem] theorem T_29 : T 29 = some ⟨.struct [(0, 27), (2, 27)], 4, 32, true, .agg [.n .u64 0, .n .u64 0, .n .u64 0, .n .u64 0]⟩ := rfl   -- pcg.State
@[go_sem] theorem T_30 : T 30 = some ⟨.int .u32, 1, 4, true, .n .u32 0⟩ := rfl   -- uint32
@[go_sem] theorem T_31 : T 31 = some ⟨.array 2 30, 2, 8, true, .agg [.n .u32 0, .n .u32 0]⟩ := rfl   -- [2]uint32
@[go_sem] theorem T_32 : T 32 = some ⟨.array 2 30, 2, 8, true, .agg [.n .u32 0, .n .u32 0]⟩ := rfl   -- philox.Key
@[go_sem] theorem T_33 : T 33 = some ⟨.struct [(0, 27), (2, 32), (4, 4)], 5, 32, true, .agg [.n .u64 0, .n .u64 0, .n .u32 0, .n .u32 0, .b false]⟩ := rfl   -- struct { C wide.U128; K philox.Key; Second bool }
@[go_sem] theorem T_34 : T 34 = some ⟨.struct [(0, 27), (2, 32), (4, 4)], 5, 32, true, .agg [.n .u64 0, .n .u64 0, .n .u32 0, .n .u32 0, .b false]⟩ := rfl   -- half.State
@[go_sem] theorem T_35 : T 35 = some ⟨.struct [(0, 3), (1, 22), (2, 25), (6, 29), (10, 34)], 15, 112, true, .agg [.z 0, .n .u64 0, .n .u64 0, .n .u64 0, .n .u64 0, .n .u64 0, .n .u64 0, .n .u64 0, .n .u64 0, .n .u64 0, .n .u64 0, .n .u64 0, .n .u32 0, .n .u32 0, .b false]⟩ := rfl   -- struct { Kind int; Mix uint64; Xosh xosh.State; Pcg pcg.State; Philox half.State }
@[go_sem] theorem T_36 : T 36 = some ⟨.struct [(0, 3), (1, 22), (2, 25), (6, 29), (10, 34)], 15, 112, true, .agg [.z 0, .n .u64 0, .n .u64 0, .n .u64 0, .n .u64 0, .n .u64 0, .n .u64 0, .n .u64 0, .n .u64 0, .n .u64 0, .n .u64 0, .n .u64 0, .n .u32 0, .n .u32 0, .b false]⟩ := rfl   -- gen.State
@[go_sem] theorem T_37 : T 37 = some ⟨.int .i64, 1, 8, true, .z 0⟩ := rfl   -- api.Errno
@[go_sem] theorem T_39 : T 39 = some ⟨.other, 1, 8, true, .nilf⟩ := rfl   -- func(int, uint64) (gen.State, api.Errno)
@[go_sem] theorem T_40 : T 40 = some ⟨.struct [(0, 22), (1, 22)], 2, 16, true, .agg [.n .u64 0, .n .u64 0]⟩ := rfl   -- knuckleboneref01.U
@[go_sem] theorem T_41 : T 41 = some ⟨.struct [(0, 40), (2, 40)], 4, 32, true, .agg [.n .u64 0, .n .u64 0, .n .u64 0, .n .u64 0]⟩ := rfl   -- struct { S knuckleboneref01.U; I knuckleboneref01.U }
@[go_sem] theorem T_42 : T 42 = some ⟨.struct [(0, 40), (2, 40)], 4, 32, true, .agg [.n .u64 0, .n .u64 0, .n .u64 0, .n .u64 0]⟩ := rfl   -- knuckleboneref10.State
@[go_sem] theorem T_43 : T 43 = some ⟨.struct [(0, 40), (2, 31), (4, 4)], 5, 32, true, .agg [.n .u64 0, .n .u64 0, .n .u32 0, .n .u32 0, .b false]⟩ := rfl   -- struct { C knuckleboneref01.U; K [2]uint32; Second bool }
@[go_sem] theorem T_44 : T 44 = some ⟨.struct [(0, 40), (2, 31), (4, 4)], 5, 32, true, .agg [.n .u64 0, .n .u64 0, .n .u32 0, .n .u32 0, .b false]⟩ := rfl   -- knuckleboneref12.State
@[go_sem] theorem T_45 : T 45 = some ⟨.struct [(0, 3), (1, 22), (2, 24), (6, 42), (10, 44)], 15, 112, true, .agg [.z 0, .n .u64 0, .n .u64 0, .n .u64 0, .n .u64 0, .n .u64 0, .n .u64 0, .n .u64 0, .n .u64 0, .n .u64 0, .n .u64 0, .n .u64 0, .n .u32 0, .n .u32 0, .b false]⟩ := rfl   -- struct { Kind int; Mix uint64; Xosh [4]uint64; Pcg knuckleboneref10.State; Philox knuckleboneref12.State }
@[go_sem] theorem T_46 : T 46 = some ⟨.struct [(0, 3), (1, 22), (2, 24), (6, 42), (10, 44)], 15, 112, true, .agg [.z 0, .n .u64 0, .n .u64 0, .n .u64 0, .n .u64 0, .n .u64 0, .n .u64 0, .n .u64 0, .n .u64 0, .n .u64 0, .n .u64 0, .n .u64 0, .n .u32 0, .n .u32 0, .b false]⟩ := rfl   -- knuckleboneref13.State
@[go_sem] theorem T_48 : T 48 = some ⟨.other, 1, 8, true, .nilf⟩ := rfl   -- func(int, uint64) (knuckleboneref13.State, api.Errno)
@[go_sem] theorem T_49 : T 49 = some ⟨.other, 1, 8, true, .nilf⟩ := rfl   -- func(int, uint64, wide.U128) (gen.State, api.Errno)
@[go_sem] theorem T_50 : T 50 = some ⟨.other, 1, 8, true, .nilf⟩ := rfl   -- func(uint64) wide.U128
@[go_sem] theorem T_51 : T 51 = some ⟨.slice 22, 1, 24, true, .nils⟩ := rfl   -- []uint64
@[go_sem] theorem T_53 : T 53 = some ⟨.other, 1, 8, true, .nilf⟩ := rfl   -- func(int, uint64, wide.U128, int) ([]uint64, api.Errno)
@[go_sem] theorem T_54 : T 54 = some ⟨.other, 1, 8, true, .nilf⟩ := rfl   -- func(gen.State) knuckleboneref13.State
@[go_sem] theorem T_55 : T 55 = some ⟨.other, 1, 8, true, .nilf⟩ := rfl   -- func(knuckleboneref13.State, int) knuckleboneref13.State
@[go_sem] theorem T_56 : T 56 = some ⟨.other, 1, 8, true, .nilf⟩ := rfl   -- func(gen.State, int, uint64, wide.U128) bool
@[go_sem] theorem T_57 : T 57 = some ⟨.other, 1, 8, true, .nilf⟩ := rfl   -- func([]uint64, []uint64) bool
@[go_sem] theorem T_58 : T 58 = some ⟨.other, 1, 8, true, .nilf⟩ := rfl   -- func(int, uint64, int, int) []uint64
@[go_sem] theorem T_59 : T 59 = some ⟨.other, 1, 8, true, .nilf⟩ := rfl   -- func(int, uint64, uint8, int) bool
@[go_sem] theorem T_60 : T 60 = some ⟨.other, 1, 8, true, .nilf⟩ := rfl   -- func(gen.State) api.Errno
@[go_sem] theorem T_61 : T 61 = some ⟨.other, 1, 8, true, .nilf⟩ := rfl   -- func(wide.U128, wide.U128) int
@[go_sem] theorem T_62 : T 62 = some ⟨.other, 1, 8, true, .nilf⟩ := rfl   -- func(int) wide.U128
@[go_sem] theorem T_63 : T 63 = some ⟨.other, 1, 8, true, .nilf⟩ := rfl   -- func(gen.State, wide.U128) (gen.State, api.Errno)
@[go_sem] theorem T_64 : T 64 = some ⟨.other, 1, 8, true, .nilf⟩ := rfl   -- func(uint8, uint64, wide.U128) bool
@[go_sem] theorem T_65 : T 65 = some ⟨.other, 1, 8, true, .nilf⟩ := rfl   -- func(uint8, uint64, uint64, wide.U128, wide.U128) bool
@[go_sem] theorem T_67 : T 67 = some ⟨.other, 1, 8, true, .nilf⟩ := rfl   -- func(wide.U128, wide.U128) (wide.U128, bool)
@[go_sem] theorem T_68 : T 68 = some ⟨.other, 1, 8, true, .nilf⟩ := rfl   -- func(uint8, uint64, wide.U128, uint8, uint8) bool
@[go_sem] theorem T_69 : T 69 = some ⟨.other, 1, 8, true, .nilf⟩ := rfl   -- func(knuckleboneref13.State) api.Errno
@[go_sem] theorem T_70 : T 70 = some ⟨.slice 5, 1, 24, true, .nils⟩ := rfl   -- []uint8
@[go_sem] theorem T_72 : T 72 = some ⟨.other, 1, 8, true, .nilf⟩ := rfl   -- func(gen.State) ([]uint8, api.Errno)
@[go_sem] theorem T_73 : T 73 = some ⟨.other, 1, 8, true, .nilf⟩ := rfl   -- func(knuckleboneref13.State) ([]uint8, api.Errno)
@[go_sem] theorem T_75 : T 75 = some ⟨.other, 1, 8, true, .nilf⟩ := rfl   -- func(gen.State, int) ([]uint64, gen.State, api.Errno)
@[go_sem] theorem T_76 : T 76 = some ⟨.other, 1, 8, true, .nilf⟩ := rfl   -- func(gen.State) uint64
@[go_sem] theorem T_77 : T 77 = some ⟨.other, 1, 8, true, .nilf⟩ := rfl   -- func(knuckleboneref13.State) uint64
@[go_sem] theorem T_78 : T 78 = some ⟨.other, 1, 8, true, .nilf⟩ := rfl   -- func(gen.State) gen.State
@[go_sem] theorem T_79 : T 79 = some ⟨.other, 1, 8, true, .nilf⟩ := rfl   -- func(knuckleboneref13.State) knuckleboneref13.State
@[go_sem] theorem T_80 : T 80 = some ⟨.other, 1, 8, true, .nilf⟩ := rfl   -- func([]uint8, []uint8) bool
@[go_sem] theorem T_81 : T 81 = some ⟨.other, 1, 8, true, .nilf⟩ := rfl   -- func(gen.State, int) bool
@[go_sem] theorem T_83 : T 83 = some ⟨.other, 1, 8, true, .nilf⟩ := rfl   -- func([]uint8) (gen.State, int, api.Errno)
@[go_sem] theorem T_85 : T 85 = some ⟨.other, 1, 8, true, .nilf⟩ := rfl   -- func([]uint8) (knuckleboneref13.State, int, api.Errno)
@[go_sem] theorem T_86 : T 86 = some ⟨.other, 1, 8, true, .nilf⟩ := rfl   -- func([]uint8) bool
@[go_sem] theorem T_87 : T 87 = some ⟨.other, 1, 8, true, .nilf⟩ := rfl   -- func(gen.State, uint8) bool
@[go_sem] theorem T_88 : T 88 = some ⟨.other, 1, 8, true, .nilf⟩ := rfl   -- func(gen.State, []uint8) bool
@[go_sem] theorem T_89 : T 89 = some ⟨.other, 1, 8, true, .nilf⟩ := rfl   -- func(gen.State, wide.U128, wide.U128) bool
@[go_sem] theorem T_90 : T 90 = some ⟨.other, 1, 8, true, .nilf⟩ := rfl   -- func(uint64, [4]uint64) gen.State
@[go_sem] theorem T_91 : T 91 = some ⟨.struct [(0, 3), (1, 90)], 2, 16, true, .agg [.z 0, .nilf]⟩ := rfl   -- struct { kind int; made func(uint64, [4]uint64) gen.State }
@[go_sem] theorem T_92 : T 92 = some ⟨.struct [(0, 3), (1, 90)], 2, 16, true, .agg [.z 0, .nilf]⟩ := rfl   -- seed.way
@[go_sem] theorem T_93 : T 93 = some ⟨.array 4 92, 8, 64, true, .agg [.z 0, .nilf, .z 0, .nilf, .z 0, .nilf, .z 0, .nilf]⟩ := rfl   -- [4]seed.way
@[go_sem] theorem T_94 : T 94 = some ⟨.other, 1, 8, true, .nilf⟩ := rfl   -- func() [4]seed.way
@[go_sem] theorem T_96 : T 96 = some ⟨.other, 1, 8, true, .nilf⟩ := rfl   -- func(uint64, int) ([]uint64, uint64, api.Errno)
@[go_sem] theorem T_97 : T 97 = some ⟨.other, 1, 8, true, .nilf⟩ := rfl   -- func(uint64) uint64
@[go_sem] theorem T_98 : T 98 = some ⟨.other, 1, 8, true, .nilf⟩ := rfl   -- func(pcg.State) knuckleboneref10.State
@[go_sem] theorem T_99 : T 99 = some ⟨.other, 1, 8, true, .nilf⟩ := rfl   -- func(half.State) knuckleboneref12.State
@[go_sem] theorem T_100 : T 100 = some ⟨.iface, 1, 16, false, .nili⟩ := rfl   -- interface { gen.alone(gen.State) gen.State; gen.bits() int; gen.jump(gen.State, wide.U128) gen.State; gen.put(gen.State) []uint8; gen.right(gen.State) bool; gen.size() int; gen.step(gen.State) gen.State; gen.take([]uint8) (gen.State, bool); gen.word(gen.State) uint64 }
@[go_sem] theorem T_101 : T 101 = some ⟨.iface, 1, 16, false, .nili⟩ := rfl   -- gen.kind
@[go_sem] theorem T_102 : T 102 = some ⟨.other, 1, 8, true, .nilf⟩ := rfl   -- func(int) gen.kind
@[go_sem] theorem T_103 : T 103 = some ⟨.other, 1, 8, true, .nilf⟩ := rfl   -- func(gen.State) bool
@[go_sem] theorem T_104 : T 104 = some ⟨.other, 1, 8, true, .nilf⟩ := rfl   -- func(uint64, uint64) int
@[go_sem] theorem T_105 : T 105 = some ⟨.other, 1, 8, true, .nilf⟩ := rfl   -- func(wide.U128, int) wide.U128
@[go_sem] theorem T_106 : T 106 = some ⟨.other, 1, 8, true, .nilf⟩ := rfl   -- func() int
@[go_sem] theorem T_107 : T 107 = some ⟨.other, 1, 8, true, .nilf⟩ := rfl   -- func(gen.State, wide.U128) gen.State
@[go_sem] theorem T_109 : T 109 = some ⟨.other, 1, 8, true, .nilf⟩ := rfl   -- func(uint64, uint64, uint64) (uint64, uint64)
@[go_sem] theorem T_110 : T 110 = some ⟨.other, 1, 8, true, .nilf⟩ := rfl   -- func(gen.State) []uint8
@[go_sem] theorem T_111 : T 111 = some ⟨.other, 1, 8, true, .nilf⟩ := rfl   -- func(uint64, int) []uint8
@[go_sem] theorem T_112 : T 112 = some ⟨.other, 1, 8, true, .nilf⟩ := rfl   -- func(knuckleboneref01.U) []uint8
@[go_sem] theorem T_113 : T 113 = some ⟨.other, 1, 8, true, .nilf⟩ := rfl   -- func([4]uint64) uint64
@[go_sem] theorem T_114 : T 114 = some ⟨.other, 1, 8, true, .nilf⟩ := rfl   -- func(knuckleboneref10.State) uint64
@[go_sem] theorem T_115 : T 115 = some ⟨.other, 1, 8, true, .nilf⟩ := rfl   -- func(knuckleboneref12.State) uint64
@[go_sem] theorem T_116 : T 116 = some ⟨.other, 1, 8, true, .nilf⟩ := rfl   -- func([4]uint64) [4]uint64
@[go_sem] theorem T_117 : T 117 = some ⟨.other, 1, 8, true, .nilf⟩ := rfl   -- func(knuckleboneref10.State) knuckleboneref10.State
@[go_sem] theorem T_118 : T 118 = some ⟨.other, 1, 8, true, .nilf⟩ := rfl   -- func(knuckleboneref12.State) knuckleboneref12.State
@[go_sem] theorem T_120 : T 120 = some ⟨.other, 1, 8, true, .nilf⟩ := rfl   -- func([]uint8) (gen.State, bool)
@[go_sem] theorem T_121 : T 121 = some ⟨.slice 3, 1, 24, true, .nils⟩ := rfl   -- []int
@[go_sem] theorem T_122 : T 122 = some ⟨.other, 1, 8, true, .nilf⟩ := rfl   -- func([]uint8) uint64
@[go_sem] theorem T_124 : T 124 = some ⟨.other, 1, 8, true, .nilf⟩ := rfl   -- func([]uint8) (knuckleboneref01.U, api.Errno)
@[go_sem] theorem T_125 : T 125 = some ⟨.int .u64, 1, 8, true, .n .u64 0⟩ := rfl   -- uint
@[go_sem] theorem T_126 : T 126 = some ⟨.struct [], 0, 0, true, .agg []⟩ := rfl   -- struct {}
@[go_sem] theorem T_127 : T 127 = some ⟨.struct [], 0, 0, true, .agg []⟩ := rfl   -- gen.mixKind
@[go_sem] theorem T_128 : T 128 = some ⟨.struct [], 0, 0, true, .agg []⟩ := rfl   -- gen.xoshKind
@[go_sem] theorem T_129 : T 129 = some ⟨.struct [], 0, 0, true, .agg []⟩ := rfl   -- gen.pcgKind
@[go_sem] theorem T_130 : T 130 = some ⟨.struct [], 0, 0, true, .agg []⟩ := rfl   -- gen.philoxKind
@[go_sem] theorem T_131 : T 131 = some ⟨.other, 1, 8, true, .nilf⟩ := rfl   -- func(uint64) bool
@[go_sem] theorem T_132 : T 132 = some ⟨.other, 1, 8, true, .nilf⟩ := rfl   -- func(knuckleboneref01.U) []int
@[go_sem] theorem T_133 : T 133 = some ⟨.other, 1, 8, true, .nilf⟩ := rfl   -- func(uint64, int) uint64
@[go_sem] theorem T_134 : T 134 = some ⟨.array 4 30, 4, 16, true, .agg [.n .u32 0, .n .u32 0, .n .u32 0, .n .u32 0]⟩ := rfl   -- [4]uint32
@[go_sem] theorem T_135 : T 135 = some ⟨.other, 1, 8, true, .nilf⟩ := rfl   -- func([4]uint32, [2]uint32, int) [4]uint32
@[go_sem] theorem T_136 : T 136 = some ⟨.other, 1, 8, true, .nilf⟩ := rfl   -- func(knuckleboneref01.U) [4]uint32
@[go_sem] theorem T_138 : T 138 = some ⟨.other, 1, 8, true, .nilf⟩ := rfl   -- func(knuckleboneref01.U, knuckleboneref01.U) (knuckleboneref01.U, bool)
@[go_sem] theorem T_139 : T 139 = some ⟨.other, 1, 8, true, .nilf⟩ := rfl   -- func(knuckleboneref01.U, knuckleboneref01.U) knuckleboneref01.U
@[go_sem] theorem T_140 : T 140 = some ⟨.other, 1, 8, true, .nilf⟩ := rfl   -- func(uint64) []int
@[go_sem] theorem T_141 : T 141 = some ⟨.other, 1, 8, true, .nilf⟩ := rfl   -- func([]int) knuckleboneref01.U
@[go_sem] theorem T_142 : T 142 = some ⟨.other, 1, 8, true, .nilf⟩ := rfl   -- func([4]uint32, [2]uint32) [4]uint32
@[go_sem] theorem T_143 : T 143 = some ⟨.other, 1, 8, true, .nilf⟩ := rfl   -- func([2]uint32) [2]uint32
@[go_sem] theorem T_144 : T 144 = some ⟨.other, 1, 8, true, .nilf⟩ := rfl   -- func(knuckleboneref01.U) [4]uint64
@[go_sem] theorem T_145 : T 145 = some ⟨.other, 1, 8, true, .nilf⟩ := rfl   -- func([4]uint64) knuckleboneref01.U
@[go_sem] theorem T_146 : T 146 = some ⟨.other, 1, 8, true, .nilf⟩ := rfl   -- func([]int, int) uint64
@[go_sem] theorem T_147 : T 147 = some ⟨.struct [(0, 3), (1, 22), (2, 22)], 3, 24, true, .agg [.z 0, .n .u64 0, .n .u64 0]⟩ := rfl   -- struct { shift int; times uint64; back uint64 }
@[go_sem] theorem T_148 : T 148 = some ⟨.struct [(0, 3), (1, 22), (2, 22)], 3, 24, true, .agg [.z 0, .n .u64 0, .n .u64 0]⟩ := rfl   -- mix.round
@[go_sem] theorem T_149 : T 149 = some ⟨.array 3 148, 9, 72, true, .agg [.z 0, .n .u64 0, .n .u64 0, .z 0, .n .u64 0, .n .u64 0, .z 0, .n .u64 0, .n .u64 0]⟩ := rfl   -- [3]mix.round
@[go_sem] theorem T_150 : T 150 = some ⟨.other, 1, 8, true, .nilf⟩ := rfl   -- func() [3]mix.round
@[go_sem] theorem T_151 : T 151 = some ⟨.other, 1, 8, true, .nilf⟩ := rfl   -- func() string
@[go_sem] theorem T_160 : T 160 = some ⟨.ptr 5, 1, 8, true, .nilp⟩ := rfl   -- *uint8
@[go_sem] theorem T_165 : T 165 = some ⟨.other, 1, 8, true, .nilf⟩ := rfl   -- func(uint64, wide.U128) uint64
@[go_sem] theorem T_166 : T 166 = some ⟨.other, 1, 8, true, .nilf⟩ := rfl   -- func(wide.U128, wide.U128) wide.U128
@[go_sem] theorem T_167 : T 167 = some ⟨.other, 1, 8, true, .nilf⟩ := rfl   -- func(wide.U128) []uint8
@[go_sem] theorem T_168 : T 168 = some ⟨.other, 1, 8, true, .nilf⟩ := rfl   -- func(uint64, uint64) wide.U128
@[go_sem] theorem T_169 : T 169 = some ⟨.other, 1, 8, true, .nilf⟩ := rfl   -- func(uint64, uint64) (uint64, uint64)
@[go_sem] theorem T_171 : T 171 = some ⟨.other, 1, 8, true, .nilf⟩ := rfl   -- func(xosh.State, wide.U128) (xosh.State, api.Errno)
@[go_sem] theorem T_172 : T 172 = some ⟨.other, 1, 8, true, .nilf⟩ := rfl   -- func(xosh.State) bool
@[go_sem] theorem T_173 : T 173 = some ⟨.other, 1, 8, true, .nilf⟩ := rfl   -- func(xosh.State) xosh.State
@[go_sem] theorem T_174 : T 174 = some ⟨.other, 1, 8, true, .nilf⟩ := rfl   -- func(xosh.State) uint64
@[go_sem] theorem T_175 : T 175 = some ⟨.other, 1, 8, true, .nilf⟩ := rfl   -- func(gfp.Poly, xosh.State) xosh.State
@[go_sem] theorem T_176 : T 176 = some ⟨.slice 22, 1, 24, true, .nils⟩ := rfl   -- gfp.Poly
@[go_sem] theorem T_177 : T 177 = some ⟨.other, 1, 8, true, .nilf⟩ := rfl   -- func(wide.U128) gfp.Poly
@[go_sem] theorem T_178 : T 178 = some ⟨.other, 1, 8, true, .nilf⟩ := rfl   -- func(gfp.Poly) int
@[go_sem] theorem T_179 : T 179 = some ⟨.other, 1, 8, true, .nilf⟩ := rfl   -- func(gfp.Poly, int) int
@[go_sem] theorem T_180 : T 180 = some ⟨.other, 1, 8, true, .nilf⟩ := rfl   -- func(xosh.State, xosh.State) xosh.State
@[go_sem] theorem T_182 : T 182 = some ⟨.other, 1, 8, true, .nilf⟩ := rfl   -- func(wide.U128, gfp.Poly) (gfp.Poly, api.Errno)
@[go_sem] theorem T_183 : T 183 = some ⟨.other, 1, 8, true, .nilf⟩ := rfl   -- func() gfp.Poly
@[go_sem] theorem T_184 : T 184 = some ⟨.other, 1, 8, true, .nilf⟩ := rfl   -- func(gfp.Poly) gfp.Poly
@[go_sem] theorem T_185 : T 185 = some ⟨.other, 1, 8, true, .nilf⟩ := rfl   -- func(uint64) int
@[go_sem] theorem T_186 : T 186 = some ⟨.other, 1, 8, true, .nilf⟩ := rfl   -- func(int) uint64
@[go_sem] theorem T_187 : T 187 = some ⟨.other, 1, 8, true, .nilf⟩ := rfl   -- func(gfp.Poly, wide.U128, gfp.Poly) (gfp.Poly, api.Errno)
@[go_sem] theorem T_188 : T 188 = some ⟨.other, 1, 8, true, .nilf⟩ := rfl   -- func(int) gfp.Poly
@[go_sem] theorem T_189 : T 189 = some ⟨.slice 4, 1, 24, true, .nils⟩ := rfl   -- []bool
@[go_sem] theorem T_191 : T 191 = some ⟨.other, 1, 8, true, .nilf⟩ := rfl   -- func(xosh.State, int) ([]bool, api.Errno)
@[go_sem] theorem T_193 : T 193 = some ⟨.other, 1, 8, true, .nilf⟩ := rfl   -- func([]bool) (gfp.Poly, bool)
@[go_sem] theorem T_194 : T 194 = some ⟨.other, 1, 8, true, .nilf⟩ := rfl   -- func(gfp.Poly, gfp.Poly) (gfp.Poly, api.Errno)
@[go_sem] theorem T_195 : T 195 = some ⟨.other, 1, 8, true, .nilf⟩ := rfl   -- func(func(int) bool)
@[go_sem] theorem T_196 : T 196 = some ⟨.other, 1, 8, true, .nilf⟩ := rfl   -- iter.Seq[int]
@[go_sem] theorem T_197 : T 197 = some ⟨.other, 1, 8, true, .nilf⟩ := rfl   -- func(wide.U128) iter.Seq[int]
@[go_sem] theorem T_198 : T 198 = some ⟨.other, 1, 8, true, .nilf⟩ := rfl   -- func(gfp.Poly, gfp.Poly) gfp.Poly
@[go_sem] theorem T_199 : T 199 = some ⟨.other, 1, 8, true, .nilf⟩ := rfl   -- func(gfp.Poly, gfp.Poly, gfp.Poly) (gfp.Poly, api.Errno)
@[go_sem] theorem T_200 : T 200 = some ⟨.other, 1, 8, true, .nilf⟩ := rfl   -- func(gfp.Poly, int) gfp.Poly
@[go_sem] theorem T_201 : T 201 = some ⟨.other, 1, 8, true, .nilf⟩ := rfl   -- func() xosh.State
@[go_sem] theorem T_202 : T 202 = some ⟨.other, 1, 8, true, .nilf⟩ := rfl   -- func(*xosh.State) func() xosh.State
@[go_sem] theorem T_203 : T 203 = some ⟨.ptr 25, 1, 8, true, .nilp⟩ := rfl   -- *xosh.State
@[go_sem] theorem T_204 : T 204 = some ⟨.struct [(0, 176), (1, 176), (2, 3), (3, 3)], 4, 64, true, .agg [.nils, .nils, .z 0, .z 0]⟩ := rfl   -- struct { c gfp.Poly; b gfp.Poly; n int; ago int }
@[go_sem] theorem T_205 : T 205 = some ⟨.struct [(0, 176), (1, 176), (2, 3), (3, 3)], 4, 64, true, .agg [.nils, .nils, .z 0, .z 0]⟩ := rfl   -- massey.state
@[go_sem] theorem T_206 : T 206 = some ⟨.other, 1, 8, true, .nilf⟩ := rfl   -- func([]bool) massey.state
@[go_sem] theorem T_208 : T 208 = some ⟨.other, 1, 8, true, .nilf⟩ := rfl   -- func(gfp.Poly, gfp.Poly) (gfp.Poly, gfp.Poly, api.Errno)
@[go_sem] theorem T_209 : T 209 = some ⟨.other, 1, 8, true, .nilf⟩ := rfl   -- func(int) bool
@[go_sem] theorem T_210 : T 210 = some ⟨.other, 1, 8, true, .nilf⟩ := rfl   -- func(wide.U128) int
@[go_sem] theorem T_211 : T 211 = some ⟨.other, 1, 8, true, .nilf⟩ := rfl   -- func(wide.U128, int) int
@[go_sem] theorem T_212 : T 212 = some ⟨.struct [(0, 176), (1, 176)], 2, 48, true, .agg [.nils, .nils]⟩ := rfl   -- struct { q gfp.Poly; r gfp.Poly }
@[go_sem] theorem T_213 : T 213 = some ⟨.struct [(0, 176), (1, 176)], 2, 48, true, .agg [.nils, .nils]⟩ := rfl   -- gfdiv.part
@[go_sem] theorem T_214 : T 214 = some ⟨.other, 1, 8, true, .nilf⟩ := rfl   -- func(gfp.Poly, gfp.Poly) gfdiv.part
@[go_sem] theorem T_216 : T 216 = some ⟨.other, 1, 8, true, .nilf⟩ := rfl   -- func(pcg.State, wide.U128) (pcg.State, api.Errno)
@[go_sem] theorem T_217 : T 217 = some ⟨.other, 1, 8, true, .nilf⟩ := rfl   -- func(pcg.State) bool
@[go_sem] theorem T_218 : T 218 = some ⟨.other, 1, 8, true, .nilf⟩ := rfl   -- func(pcg.State) pcg.State
@[go_sem] theorem T_219 : T 219 = some ⟨.other, 1, 8, true, .nilf⟩ := rfl   -- func([]uint8) wide.U128
@[go_sem] theorem T_220 : T 220 = some ⟨.other, 1, 8, true, .nilf⟩ := rfl   -- func(pcg.State) uint64
@[go_sem] theorem T_221 : T 221 = some ⟨.other, 1, 8, true, .nilf⟩ := rfl   -- func(affine.Map, wide.U128) wide.U128
@[go_sem] theorem T_222 : T 222 = some ⟨.struct [(0, 27), (2, 27)], 4, 32, true, .agg [.n .u64 0, .n .u64 0, .n .u64 0, .n .u64 0]⟩ := rfl   -- struct { A wide.U128; C wide.U128 }
@[go_sem] theorem T_223 : T 223 = some ⟨.struct [(0, 27), (2, 27)], 4, 32, true, .agg [.n .u64 0, .n .u64 0, .n .u64 0, .n .u64 0]⟩ := rfl   -- affine.Map
@[go_sem] theorem T_224 : T 224 = some ⟨.other, 1, 8, true, .nilf⟩ := rfl   -- func(affine.Map, wide.U128) affine.Map
@[go_sem] theorem T_225 : T 225 = some ⟨.other, 1, 8, true, .nilf⟩ := rfl   -- func(pcg.State) affine.Map
@[go_sem] theorem T_226 : T 226 = some ⟨.other, 1, 8, true, .nilf⟩ := rfl   -- func() affine.Map
@[go_sem] theorem T_227 : T 227 = some ⟨.other, 1, 8, true, .nilf⟩ := rfl   -- func(affine.Map, affine.Map) affine.Map
@[go_sem] theorem T_228 : T 228 = some ⟨.other, 1, 8, true, .nilf⟩ := rfl   -- func(half.State, wide.U128) half.State
@[go_sem] theorem T_229 : T 229 = some ⟨.other, 1, 8, true, .nilf⟩ := rfl   -- func(half.State) half.State
@[go_sem] theorem T_230 : T 230 = some ⟨.other, 1, 8, true, .nilf⟩ := rfl   -- func(half.State) uint64
@[go_sem] theorem T_231 : T 231 = some ⟨.array 4 30, 4, 16, true, .agg [.n .u32 0, .n .u32 0, .n .u32 0, .n .u32 0]⟩ := rfl   -- philox.Block
@[go_sem] theorem T_232 : T 232 = some ⟨.other, 1, 8, true, .nilf⟩ := rfl   -- func(philox.Block, philox.Key) philox.Block
@[go_sem] theorem T_233 : T 233 = some ⟨.other, 1, 8, true, .nilf⟩ := rfl   -- func(wide.U128) philox.Block
@[go_sem] theorem T_234 : T 234 = some ⟨.other, 1, 8, true, .nilf⟩ := rfl   -- func(uint32, uint32) uint64
@[go_sem] theorem T_235 : T 235 = some ⟨.map 4 22, 1, 8, true, .nilm⟩ := rfl   -- map[bool]uint64
@[go_sem] theorem T_237 : T 237 = some ⟨.other, 1, 8, true, .nilf⟩ := rfl   -- func(philox.Block, philox.Key, int) (philox.Block, api.Errno)
@[go_sem] theorem T_238 : T 238 = some ⟨.slice 243, 1, 24, true, .nils⟩ := rfl   -- []philox.step
@[go_sem] theorem T_240 : T 240 = some ⟨.other, 1, 8, true, .nilf⟩ := rfl   -- func(philox.Key, int) ([]philox.step, api.Errno)
@[go_sem] theorem T_241 : T 241 = some ⟨.other, 1, 8, true, .nilf⟩ := rfl   -- func(philox.Block) philox.Block
@[go_sem] theorem T_242 : T 242 = some ⟨.struct [(0, 241), (1, 241)], 2, 16, true, .agg [.nilf, .nilf]⟩ := rfl   -- struct { forth func(philox.Block) philox.Block; back func(philox.Block) philox.Block }
@[go_sem] theorem T_243 : T 243 = some ⟨.struct [(0, 241), (1, 241)], 2, 16, true, .agg [.nilf, .nilf]⟩ := rfl   -- philox.step
@[go_sem] theorem T_244 : T 244 = some ⟨.other, 1, 8, true, .nilf⟩ := rfl   -- func(philox.Key) philox.Key
@[go_sem] theorem T_245 : T 245 = some ⟨.other, 1, 8, true, .nilf⟩ := rfl   -- func(uint32) uint32
theorem tok_1 : TOk Tryz.prog 1 ⟨.other, 1, 8, true, .nilf⟩ := tok (inf := Tryz.t1) Tryz.type1 rfl Tryz.underlying1 (⟨fun _ => nofun, fun _ _ => nofun⟩) rfl rfl rfl
theorem tok_2 : TOk Tryz.prog 2 ⟨.int .i64, 1, 8, true, .z 0⟩ := tok (inf := Tryz.t2) Tryz.type2 rfl Tryz.underlying2 (rfl) rfl rfl rfl
theorem tok_3 : TOk Tryz.prog 3 ⟨.int .i64, 1, 8, true, .z 0⟩ := tok (inf := Tryz.t3) Tryz.type3 rfl Tryz.underlying3 (rfl) rfl rfl rfl
theorem tok_4 : TOk Tryz.prog 4 ⟨.bool, 1, 1, true, .b false⟩ := tok (inf := Tryz.t4) Tryz.type4 rfl Tryz.underlying4 (rfl) rfl rfl rfl
theorem tok_5 : TOk Tryz.prog 5 ⟨.int .u8, 1, 1, true, .n .u8 0⟩ := tok (inf := Tryz.t5) Tryz.type5 rfl Tryz.underlying5 (rfl) rfl rfl rfl
theorem tok_9 : TOk Tryz.prog 9 ⟨.string, 1, 16, true, .s ByteArray.empty⟩ := tok (inf := Tryz.t9) Tryz.type9 rfl Tryz.underlying9 (rfl) rfl rfl rfl
theorem tok_12 : TOk Tryz.prog 12 ⟨.int .u64, 1, 8, true, .n .u64 0⟩ := tok (inf := Tryz.t12) Tryz.type12 rfl Tryz.underlying12 (rfl) rfl rfl rfl
theorem tok_20 : TOk Tryz.prog 20 ⟨.iface, 1, 16, false, .nili⟩ := tok (inf := Tryz.t20) Tryz.type20 rfl Tryz.underlying20 (⟨_, rfl⟩) rfl rfl rfl
theorem tok_22 : TOk Tryz.prog 22 ⟨.int .u64, 1, 8, true, .n .u64 0⟩ := tok (inf := Tryz.t22) Tryz.type22 rfl Tryz.underlying22 (rfl) rfl rfl rfl
theorem tok_23 : TOk Tryz.prog 23 ⟨.other, 1, 8, true, .nilf⟩ := tok (inf := Tryz.t23) Tryz.type23 rfl Tryz.underlying23 (⟨fun _ => nofun, fun _ _ => nofun⟩) rfl rfl rfl
theorem tok_24 : TOk Tryz.prog 24 ⟨.array 4 22, 4, 32, true, .agg [.n .u64 0, .n .u64 0, .n .u64 0, .n .u64 0]⟩ := tok (inf := Tryz.t24) Tryz.type24 rfl Tryz.underlying24 (rfl) rfl rfl rfl
theorem tok_25 : TOk Tryz.prog 25 ⟨.array 4 22, 4, 32, true, .agg [.n .u64 0, .n .u64 0, .n .u64 0, .n .u64 0]⟩ := tok (inf := Tryz.t25) Tryz.type25 rfl Tryz.underlying25 (rfl) rfl rfl rfl
theorem tok_26 : TOk Tryz.prog 26 ⟨.struct [(0, 22), (1, 22)], 2, 16, true, .agg [.n .u64 0, .n .u64 0]⟩ := tok (inf := Tryz.t26) Tryz.type26 rfl Tryz.underlying26 (fitS rfl ⟨⟨_, Tryz.type22, by decide⟩, ⟨_, Tryz.type22, by decide⟩, trivial⟩) rfl rfl rfl
theorem tok_27 : TOk Tryz.prog 27 ⟨.struct [(0, 22), (1, 22)], 2, 16, true, .agg [.n .u64 0, .n .u64 0]⟩ := tok (inf := Tryz.t27) Tryz.type27 rfl Tryz.underlying27 (fitS rfl ⟨⟨_, Tryz.type22, by decide⟩, ⟨_, Tryz.type22, by decide⟩, trivial⟩) rfl rfl rfl
theorem tok_28 : TOk Tryz.prog 28 ⟨.struct [(0, 27), (2, 27)], 4, 32, true, .agg [.n .u64 0, .n .u64 0, .n .u64 0, .n .u64 0]⟩ := tok (inf := Tryz.t28) Tryz.type28 rfl Tryz.underlying28 (fitS rfl ⟨⟨_, Tryz.type27, by decide⟩, ⟨_, Tryz.type27, by decide⟩, trivial⟩) rfl rfl rfl
theorem tok_29 : TOk Tryz.prog 29 ⟨.struct [(0, 27), (2, 27)], 4, 32, true, .agg [.n .u64 0, .n .u64 0, .n .u64 0, .n .u64 0]⟩ := tok (inf := Tryz.t29) Tryz.type29 rfl Tryz.underlying29 (fitS rfl ⟨⟨_, Tryz.type27, by decide⟩, ⟨_, Tryz.type27, by decide⟩, trivial⟩) rfl rfl rfl
theorem tok_30 : TOk Tryz.prog 30 ⟨.int .u32, 1, 4, true, .n .u32 0⟩ := tok (inf := Tryz.t30) Tryz.type30 rfl Tryz.underlying30 (rfl) rfl rfl rfl
theorem tok_31 : TOk Tryz.prog 31 ⟨.array 2 30, 2, 8, true, .agg [.n .u32 0, .n .u32 0]⟩ := tok (inf := Tryz.t31) Tryz.type31 rfl Tryz.underlying31 (rfl) rfl rfl rfl
theorem tok_32 : TOk Tryz.prog 32 ⟨.array 2 30, 2, 8, true, .agg [.n .u32 0, .n .u32 0]⟩ := tok (inf := Tryz.t32) Tryz.type32 rfl Tryz.underlying32 (rfl) rfl rfl rfl
theorem tok_33 : TOk Tryz.prog 33 ⟨.struct [(0, 27), (2, 32), (4, 4)], 5, 32, true, .agg [.n .u64 0, .n .u64 0, .n .u32 0, .n .u32 0, .b false]⟩ := tok (inf := Tryz.t33) Tryz.type33 rfl Tryz.underlying33 (fitS rfl ⟨⟨_, Tryz.type27, by decide⟩, ⟨_, Tryz.type32, by decide⟩, ⟨_, Tryz.type4, by decide⟩, trivial⟩) rfl rfl rfl
theorem tok_34 : TOk Tryz.prog 34 ⟨.struct [(0, 27), (2, 32), (4, 4)], 5, 32, true, .agg [.n .u64 0, .n .u64 0, .n .u32 0, .n .u32 0, .b false]⟩ := tok (inf := Tryz.t34) Tryz.type34 rfl Tryz.underlying34 (fitS rfl ⟨⟨_, Tryz.type27, by decide⟩, ⟨_, Tryz.type32, by decide⟩, ⟨_, Tryz.type4, by decide⟩, trivial⟩) rfl rfl rfl
theorem tok_35 : TOk Tryz.prog 35 ⟨.struct [(0, 3), (1, 22), (2, 25), (6, 29), (10, 34)], 15, 112, true, .agg [.z 0, .n .u64 0, .n .u64 0, .n .u64 0, .n .u64 0, .n .u64 0, .n .u64 0, .n .u64 0, .n .u64 0, .n .u64 0, .n .u64 0, .n .u64 0, .n .u32 0, .n .u32 0, .b false]⟩ := tok (inf := Tryz.t35) Tryz.type35 rfl Tryz.underlying35 (fitS rfl ⟨⟨_, Tryz.type3, by decide⟩, ⟨_, Tryz.type22, by decide⟩, ⟨_, Tryz.type25, by decide⟩, ⟨_, Tryz.type29, by decide⟩, ⟨_, Tryz.type34, by decide⟩, trivial⟩) rfl rfl rfl
theorem tok_36 : TOk Tryz.prog 36 ⟨.struct [(0, 3), (1, 22), (2, 25), (6, 29), (10, 34)], 15, 112, true, .agg [.z 0, .n .u64 0, .n .u64 0, .n .u64 0, .n .u64 0, .n .u64 0, .n .u64 0, .n .u64 0, .n .u64 0, .n .u64 0, .n .u64 0, .n .u64 0, .n .u32 0, .n .u32 0, .b false]⟩ := tok (inf := Tryz.t36) Tryz.type36 rfl Tryz.underlying36 (fitS rfl ⟨⟨_, Tryz.type3, by decide⟩, ⟨_, Tryz.type22, by decide⟩, ⟨_, Tryz.type25, by decide⟩, ⟨_, Tryz.type29, by decide⟩, ⟨_, Tryz.type34, by decide⟩, trivial⟩) rfl rfl rfl
theorem tok_37 : TOk Tryz.prog 37 ⟨.int .i64, 1, 8, true, .z 0⟩ := tok (inf := Tryz.t37) Tryz.type37 rfl Tryz.underlying37 (rfl) rfl rfl rfl
theorem tok_39 : TOk Tryz.prog 39 ⟨.other, 1, 8, true, .nilf⟩ := tok (inf := Tryz.t39) Tryz.type39 rfl Tryz.underlying39 (⟨fun _ => nofun, fun _ _ => nofun⟩) rfl rfl rfl
theorem tok_40 : TOk Tryz.prog 40 ⟨.struct [(0, 22), (1, 22)], 2, 16, true, .agg [.n .u64 0, .n .u64 0]⟩ := tok (inf := Tryz.t40) Tryz.type40 rfl Tryz.underlying40 (fitS rfl ⟨⟨_, Tryz.type22, by decide⟩, ⟨_, Tryz.type22, by decide⟩, trivial⟩) rfl rfl rfl
theorem tok_41 : TOk Tryz.prog 41 ⟨.struct [(0, 40), (2, 40)], 4, 32, true, .agg [.n .u64 0, .n .u64 0, .n .u64 0, .n .u64 0]⟩ := tok (inf := Tryz.t41) Tryz.type41 rfl Tryz.underlying41 (fitS rfl ⟨⟨_, Tryz.type40, by decide⟩, ⟨_, Tryz.type40, by decide⟩, trivial⟩) rfl rfl rfl
theorem tok_42 : TOk Tryz.prog 42 ⟨.struct [(0, 40), (2, 40)], 4, 32, true, .agg [.n .u64 0, .n .u64 0, .n .u64 0, .n .u64 0]⟩ := tok (inf := Tryz.t42) Tryz.type42 rfl Tryz.underlying42 (fitS rfl ⟨⟨_, Tryz.type40, by decide⟩, ⟨_, Tryz.type40, by decide⟩, trivial⟩) rfl rfl rfl
theorem tok_43 : TOk Tryz.prog 43 ⟨.struct [(0, 40), (2, 31), (4, 4)], 5, 32, true, .agg [.n .u64 0, .n .u64 0, .n .u32 0, .n .u32 0, .b false]⟩ := tok (inf := Tryz.t43) Tryz.type43 rfl Tryz.underlying43 (fitS rfl ⟨⟨_, Tryz.type40, by decide⟩, ⟨_, Tryz.type31, by decide⟩, ⟨_, Tryz.type4, by decide⟩, trivial⟩) rfl rfl rfl
theorem tok_44 : TOk Tryz.prog 44 ⟨.struct [(0, 40), (2, 31), (4, 4)], 5, 32, true, .agg [.n .u64 0, .n .u64 0, .n .u32 0, .n .u32 0, .b false]⟩ := tok (inf := Tryz.t44) Tryz.type44 rfl Tryz.underlying44 (fitS rfl ⟨⟨_, Tryz.type40, by decide⟩, ⟨_, Tryz.type31, by decide⟩, ⟨_, Tryz.type4, by decide⟩, trivial⟩) rfl rfl rfl
theorem tok_45 : TOk Tryz.prog 45 ⟨.struct [(0, 3), (1, 22), (2, 24), (6, 42), (10, 44)], 15, 112, true, .agg [.z 0, .n .u64 0, .n .u64 0, .n .u64 0, .n .u64 0, .n .u64 0, .n .u64 0, .n .u64 0, .n .u64 0, .n .u64 0, .n .u64 0, .n .u64 0, .n .u32 0, .n .u32 0, .b false]⟩ := tok (inf := Tryz.t45) Tryz.type45 rfl Tryz.underlying45 (fitS rfl ⟨⟨_, Tryz.type3, by decide⟩, ⟨_, Tryz.type22, by decide⟩, ⟨_, Tryz.type24, by decide⟩, ⟨_, Tryz.type42, by decide⟩, ⟨_, Tryz.type44, by decide⟩, trivial⟩) rfl rfl rfl
theorem tok_46 : TOk Tryz.prog 46 ⟨.struct [(0, 3), (1, 22), (2, 24), (6, 42), (10, 44)], 15, 112, true, .agg [.z 0, .n .u64 0, .n .u64 0, .n .u64 0, .n .u64 0, .n .u64 0, .n .u64 0, .n .u64 0, .n .u64 0, .n .u64 0, .n .u64 0, .n .u64 0, .n .u32 0, .n .u32 0, .b false]⟩ := tok (inf := Tryz.t46) Tryz.type46 rfl Tryz.underlying46 (fitS rfl ⟨⟨_, Tryz.type3, by decide⟩, ⟨_, Tryz.type22, by decide⟩, ⟨_, Tryz.type24, by decide⟩, ⟨_, Tryz.type42, by decide⟩, ⟨_, Tryz.type44, by decide⟩, trivial⟩) rfl rfl rfl
theorem tok_48 : TOk Tryz.prog 48 ⟨.other, 1, 8, true, .nilf⟩ := tok (inf := Tryz.t48) Tryz.type48 rfl Tryz.underlying48 (⟨fun _ => nofun, fun _ _ => nofun⟩) rfl rfl rfl
theorem tok_49 : TOk Tryz.prog 49 ⟨.other, 1, 8, true, .nilf⟩ := tok (inf := Tryz.t49) Tryz.type49 rfl Tryz.underlying49 (⟨fun _ => nofun, fun _ _ => nofun⟩) rfl rfl rfl
theorem tok_50 : TOk Tryz.prog 50 ⟨.other, 1, 8, true, .nilf⟩ := tok (inf := Tryz.t50) Tryz.type50 rfl Tryz.underlying50 (⟨fun _ => nofun, fun _ _ => nofun⟩) rfl rfl rfl
theorem tok_51 : TOk Tryz.prog 51 ⟨.slice 22, 1, 24, true, .nils⟩ := tok (inf := Tryz.t51) Tryz.type51 rfl Tryz.underlying51 (rfl) rfl rfl rfl
theorem tok_53 : TOk Tryz.prog 53 ⟨.other, 1, 8, true, .nilf⟩ := tok (inf := Tryz.t53) Tryz.type53 rfl Tryz.underlying53 (⟨fun _ => nofun, fun _ _ => nofun⟩) rfl rfl rfl
theorem tok_54 : TOk Tryz.prog 54 ⟨.other, 1, 8, true, .nilf⟩ := tok (inf := Tryz.t54) Tryz.type54 rfl Tryz.underlying54 (⟨fun _ => nofun, fun _ _ => nofun⟩) rfl rfl rfl
theorem tok_55 : TOk Tryz.prog 55 ⟨.other, 1, 8, true, .nilf⟩ := tok (inf := Tryz.t55) Tryz.type55 rfl Tryz.underlying55 (⟨fun _ => nofun, fun _ _ => nofun⟩) rfl rfl rfl
theorem tok_56 : TOk Tryz.prog 56 ⟨.other, 1, 8, true, .nilf⟩ := tok (inf := Tryz.t56) Tryz.type56 rfl Tryz.underlying56 (⟨fun _ => nofun, fun _ _ => nofun⟩) rfl rfl rfl
theorem tok_57 : TOk Tryz.prog 57 ⟨.other, 1, 8, true, .nilf⟩ := tok (inf := Tryz.t57) Tryz.type57 rfl Tryz.underlying57 (⟨fun _ => nofun, fun _ _ => nofun⟩) rfl rfl rfl
theorem tok_58 : TOk Tryz.prog 58 ⟨.other, 1, 8, true, .nilf⟩ := tok (inf := Tryz.t58) Tryz.type58 rfl Tryz.underlying58 (⟨fun _ => nofun, fun _ _ => nofun⟩) rfl rfl rfl
theorem tok_59 : TOk Tryz.prog 59 ⟨.other, 1, 8, true, .nilf⟩ := tok (inf := Tryz.t59) Tryz.type59 rfl Tryz.underlying59 (⟨fun _ => nofun, fun _ _ => nofun⟩) rfl rfl rfl
theorem tok_60 : TOk Tryz.prog 60 ⟨.other, 1, 8, true, .nilf⟩ := tok (inf := Tryz.t60) Tryz.type60 rfl Tryz.underlying60 (⟨fun _ => nofun, fun _ _ => nofun⟩) rfl rfl rfl
theorem tok_61 : TOk Tryz.prog 61 ⟨.other, 1, 8, true, .nilf⟩ := tok (inf := Tryz.t61) Tryz.type61 rfl Tryz.underlying61 (⟨fun _ => nofun, fun _ _ => nofun⟩) rfl rfl rfl
theorem tok_62 : TOk Tryz.prog 62 ⟨.other, 1, 8, true, .nilf⟩ := tok (inf := Tryz.t62) Tryz.type62 rfl Tryz.underlying62 (⟨fun _ => nofun, fun _ _ => nofun⟩) rfl rfl rfl
theorem tok_63 : TOk Tryz.prog 63 ⟨.other, 1, 8, true, .nilf⟩ := tok (inf := Tryz.t63) Tryz.type63 rfl Tryz.underlying63 (⟨fun _ => nofun, fun _ _ => nofun⟩) rfl rfl rfl
theorem tok_64 : TOk Tryz.prog 64 ⟨.other, 1, 8, true, .nilf⟩ := tok (inf := Tryz.t64) Tryz.type64 rfl Tryz.underlying64 (⟨fun _ => nofun, fun _ _ => nofun⟩) rfl rfl rfl
theorem tok_65 : TOk Tryz.prog 65 ⟨.other, 1, 8, true, .nilf⟩ := tok (inf := Tryz.t65) Tryz.type65 rfl Tryz.underlying65 (⟨fun _ => nofun, fun _ _ => nofun⟩) rfl rfl rfl
theorem tok_67 : TOk Tryz.prog 67 ⟨.other, 1, 8, true, .nilf⟩ := tok (inf := Tryz.t67) Tryz.type67 rfl Tryz.underlying67 (⟨fun _ => nofun, fun _ _ => nofun⟩) rfl rfl rfl
theorem tok_68 : TOk Tryz.prog 68 ⟨.other, 1, 8, true, .nilf⟩ := tok (inf := Tryz.t68) Tryz.type68 rfl Tryz.underlying68 (⟨fun _ => nofun, fun _ _ => nofun⟩) rfl rfl rfl
theorem tok_69 : TOk Tryz.prog 69 ⟨.other, 1, 8, true, .nilf⟩ := tok (inf := Tryz.t69) Tryz.type69 rfl Tryz.underlying69 (⟨fun _ => nofun, fun _ _ => nofun⟩) rfl rfl rfl
theorem tok_70 : TOk Tryz.prog 70 ⟨.slice 5, 1, 24, true, .nils⟩ := tok (inf := Tryz.t70) Tryz.type70 rfl Tryz.underlying70 (rfl) rfl rfl rfl
theorem tok_72 : TOk Tryz.prog 72 ⟨.other, 1, 8, true, .nilf⟩ := tok (inf := Tryz.t72) Tryz.type72 rfl Tryz.underlying72 (⟨fun _ => nofun, fun _ _ => nofun⟩) rfl rfl rfl
theorem tok_73 : TOk Tryz.prog 73 ⟨.other, 1, 8, true, .nilf⟩ := tok (inf := Tryz.t73) Tryz.type73 rfl Tryz.underlying73 (⟨fun _ => nofun, fun _ _ => nofun⟩) rfl rfl rfl
theorem tok_75 : TOk Tryz.prog 75 ⟨.other, 1, 8, true, .nilf⟩ := tok (inf := Tryz.t75) Tryz.type75 rfl Tryz.underlying75 (⟨fun _ => nofun, fun _ _ => nofun⟩) rfl rfl rfl
theorem tok_76 : TOk Tryz.prog 76 ⟨.other, 1, 8, true, .nilf⟩ := tok (inf := Tryz.t76) Tryz.type76 rfl Tryz.underlying76 (⟨fun _ => nofun, fun _ _ => nofun⟩) rfl rfl rfl
theorem tok_77 : TOk Tryz.prog 77 ⟨.other, 1, 8, true, .nilf⟩ := tok (inf := Tryz.t77) Tryz.type77 rfl Tryz.underlying77 (⟨fun _ => nofun, fun _ _ => nofun⟩) rfl rfl rfl
theorem tok_78 : TOk Tryz.prog 78 ⟨.other, 1, 8, true, .nilf⟩ := tok (inf := Tryz.t78) Tryz.type78 rfl Tryz.underlying78 (⟨fun _ => nofun, fun _ _ => nofun⟩) rfl rfl rfl
theorem tok_79 : TOk Tryz.prog 79 ⟨.other, 1, 8, true, .nilf⟩ := tok (inf := Tryz.t79) Tryz.type79 rfl Tryz.underlying79 (⟨fun _ => nofun, fun _ _ => nofun⟩) rfl rfl rfl
theorem tok_80 : TOk Tryz.prog 80 ⟨.other, 1, 8, true, .nilf⟩ := tok (inf := Tryz.t80) Tryz.type80 rfl Tryz.underlying80 (⟨fun _ => nofun, fun _ _ => nofun⟩) rfl rfl rfl
theorem tok_81 : TOk Tryz.prog 81 ⟨.other, 1, 8, true, .nilf⟩ := tok (inf := Tryz.t81) Tryz.type81 rfl Tryz.underlying81 (⟨fun _ => nofun, fun _ _ => nofun⟩) rfl rfl rfl
theorem tok_83 : TOk Tryz.prog 83 ⟨.other, 1, 8, true, .nilf⟩ := tok (inf := Tryz.t83) Tryz.type83 rfl Tryz.underlying83 (⟨fun _ => nofun, fun _ _ => nofun⟩) rfl rfl rfl
theorem tok_85 : TOk Tryz.prog 85 ⟨.other, 1, 8, true, .nilf⟩ := tok (inf := Tryz.t85) Tryz.type85 rfl Tryz.underlying85 (⟨fun _ => nofun, fun _ _ => nofun⟩) rfl rfl rfl
theorem tok_86 : TOk Tryz.prog 86 ⟨.other, 1, 8, true, .nilf⟩ := tok (inf := Tryz.t86) Tryz.type86 rfl Tryz.underlying86 (⟨fun _ => nofun, fun _ _ => nofun⟩) rfl rfl rfl
theorem tok_87 : TOk Tryz.prog 87 ⟨.other, 1, 8, true, .nilf⟩ := tok (inf := Tryz.t87) Tryz.type87 rfl Tryz.underlying87 (⟨fun _ => nofun, fun _ _ => nofun⟩) rfl rfl rfl
theorem tok_88 : TOk Tryz.prog 88 ⟨.other, 1, 8, true, .nilf⟩ := tok (inf := Tryz.t88) Tryz.type88 rfl Tryz.underlying88 (⟨fun _ => nofun, fun _ _ => nofun⟩) rfl rfl rfl
theorem tok_89 : TOk Tryz.prog 89 ⟨.other, 1, 8, true, .nilf⟩ := tok (inf := Tryz.t89) Tryz.type89 rfl Tryz.underlying89 (⟨fun _ => nofun, fun _ _ => nofun⟩) rfl rfl rfl
theorem tok_90 : TOk Tryz.prog 90 ⟨.other, 1, 8, true, .nilf⟩ := tok (inf := Tryz.t90) Tryz.type90 rfl Tryz.underlying90 (⟨fun _ => nofun, fun _ _ => nofun⟩) rfl rfl rfl
theorem tok_91 : TOk Tryz.prog 91 ⟨.struct [(0, 3), (1, 90)], 2, 16, true, .agg [.z 0, .nilf]⟩ := tok (inf := Tryz.t91) Tryz.type91 rfl Tryz.underlying91 (fitS rfl ⟨⟨_, Tryz.type3, by decide⟩, ⟨_, Tryz.type90, by decide⟩, trivial⟩) rfl rfl rfl
theorem tok_92 : TOk Tryz.prog 92 ⟨.struct [(0, 3), (1, 90)], 2, 16, true, .agg [.z 0, .nilf]⟩ := tok (inf := Tryz.t92) Tryz.type92 rfl Tryz.underlying92 (fitS rfl ⟨⟨_, Tryz.type3, by decide⟩, ⟨_, Tryz.type90, by decide⟩, trivial⟩) rfl rfl rfl
theorem tok_93 : TOk Tryz.prog 93 ⟨.array 4 92, 8, 64, true, .agg [.z 0, .nilf, .z 0, .nilf, .z 0, .nilf, .z 0, .nilf]⟩ := tok (inf := Tryz.t93) Tryz.type93 rfl Tryz.underlying93 (rfl) rfl rfl rfl
theorem tok_94 : TOk Tryz.prog 94 ⟨.other, 1, 8, true, .nilf⟩ := tok (inf := Tryz.t94) Tryz.type94 rfl Tryz.underlying94 (⟨fun _ => nofun, fun _ _ => nofun⟩) rfl rfl rfl
theorem tok_96 : TOk Tryz.prog 96 ⟨.other, 1, 8, true, .nilf⟩ := tok (inf := Tryz.t96) Tryz.type96 rfl Tryz.underlying96 (⟨fun _ => nofun, fun _ _ => nofun⟩) rfl rfl rfl
theorem tok_97 : TOk Tryz.prog 97 ⟨.other, 1, 8, true, .nilf⟩ := tok (inf := Tryz.t97) Tryz.type97 rfl Tryz.underlying97 (⟨fun _ => nofun, fun _ _ => nofun⟩) rfl rfl rfl
theorem tok_98 : TOk Tryz.prog 98 ⟨.other, 1, 8, true, .nilf⟩ := tok (inf := Tryz.t98) Tryz.type98 rfl Tryz.underlying98 (⟨fun _ => nofun, fun _ _ => nofun⟩) rfl rfl rfl
theorem tok_99 : TOk Tryz.prog 99 ⟨.other, 1, 8, true, .nilf⟩ := tok (inf := Tryz.t99) Tryz.type99 rfl Tryz.underlying99 (⟨fun _ => nofun, fun _ _ => nofun⟩) rfl rfl rfl
theorem tok_100 : TOk Tryz.prog 100 ⟨.iface, 1, 16, false, .nili⟩ := tok (inf := Tryz.t100) Tryz.type100 rfl Tryz.underlying100 (⟨_, rfl⟩) rfl rfl rfl
theorem tok_101 : TOk Tryz.prog 101 ⟨.iface, 1, 16, false, .nili⟩ := tok (inf := Tryz.t101) Tryz.type101 rfl Tryz.underlying101 (⟨_, rfl⟩) rfl rfl rfl
theorem tok_102 : TOk Tryz.prog 102 ⟨.other, 1, 8, true, .nilf⟩ := tok (inf := Tryz.t102) Tryz.type102 rfl Tryz.underlying102 (⟨fun _ => nofun, fun _ _ => nofun⟩) rfl rfl rfl
theorem tok_103 : TOk Tryz.prog 103 ⟨.other, 1, 8, true, .nilf⟩ := tok (inf := Tryz.t103) Tryz.type103 rfl Tryz.underlying103 (⟨fun _ => nofun, fun _ _ => nofun⟩) rfl rfl rfl
theorem tok_104 : TOk Tryz.prog 104 ⟨.other, 1, 8, true, .nilf⟩ := tok (inf := Tryz.t104) Tryz.type104 rfl Tryz.underlying104 (⟨fun _ => nofun, fun _ _ => nofun⟩) rfl rfl rfl
theorem tok_105 : TOk Tryz.prog 105 ⟨.other, 1, 8, true, .nilf⟩ := tok (inf := Tryz.t105) Tryz.type105 rfl Tryz.underlying105 (⟨fun _ => nofun, fun _ _ => nofun⟩) rfl rfl rfl
theorem tok_106 : TOk Tryz.prog 106 ⟨.other, 1, 8, true, .nilf⟩ := tok (inf := Tryz.t106) Tryz.type106 rfl Tryz.underlying106 (⟨fun _ => nofun, fun _ _ => nofun⟩) rfl rfl rfl
theorem tok_107 : TOk Tryz.prog 107 ⟨.other, 1, 8, true, .nilf⟩ := tok (inf := Tryz.t107) Tryz.type107 rfl Tryz.underlying107 (⟨fun _ => nofun, fun _ _ => nofun⟩) rfl rfl rfl
theorem tok_109 : TOk Tryz.prog 109 ⟨.other, 1, 8, true, .nilf⟩ := tok (inf := Tryz.t109) Tryz.type109 rfl Tryz.underlying109 (⟨fun _ => nofun, fun _ _ => nofun⟩) rfl rfl rfl
theorem tok_110 : TOk Tryz.prog 110 ⟨.other, 1, 8, true, .nilf⟩ := tok (inf := Tryz.t110) Tryz.type110 rfl Tryz.underlying110 (⟨fun _ => nofun, fun _ _ => nofun⟩) rfl rfl rfl
theorem tok_111 : TOk Tryz.prog 111 ⟨.other, 1, 8, true, .nilf⟩ := tok (inf := Tryz.t111) Tryz.type111 rfl Tryz.underlying111 (⟨fun _ => nofun, fun _ _ => nofun⟩) rfl rfl rfl
theorem tok_112 : TOk Tryz.prog 112 ⟨.other, 1, 8, true, .nilf⟩ := tok (inf := Tryz.t112) Tryz.type112 rfl Tryz.underlying112 (⟨fun _ => nofun, fun _ _ => nofun⟩) rfl rfl rfl
theorem tok_113 : TOk Tryz.prog 113 ⟨.other, 1, 8, true, .nilf⟩ := tok (inf := Tryz.t113) Tryz.type113 rfl Tryz.underlying113 (⟨fun _ => nofun, fun _ _ => nofun⟩) rfl rfl rfl
theorem tok_114 : TOk Tryz.prog 114 ⟨.other, 1, 8, true, .nilf⟩ := tok (inf := Tryz.t114) Tryz.type114 rfl Tryz.underlying114 (⟨fun _ => nofun, fun _ _ => nofun⟩) rfl rfl rfl
theorem tok_115 : TOk Tryz.prog 115 ⟨.other, 1, 8, true, .nilf⟩ := tok (inf := Tryz.t115) Tryz.type115 rfl Tryz.underlying115 (⟨fun _ => nofun, fun _ _ => nofun⟩) rfl rfl rfl
theorem tok_116 : TOk Tryz.prog 116 ⟨.other, 1, 8, true, .nilf⟩ := tok (inf := Tryz.t116) Tryz.type116 rfl Tryz.underlying116 (⟨fun _ => nofun, fun _ _ => nofun⟩) rfl rfl rfl
theorem tok_117 : TOk Tryz.prog 117 ⟨.other, 1, 8, true, .nilf⟩ := tok (inf := Tryz.t117) Tryz.type117 rfl Tryz.underlying117 (⟨fun _ => nofun, fun _ _ => nofun⟩) rfl rfl rfl
theorem tok_118 : TOk Tryz.prog 118 ⟨.other, 1, 8, true, .nilf⟩ := tok (inf := Tryz.t118) Tryz.type118 rfl Tryz.underlying118 (⟨fun _ => nofun, fun _ _ => nofun⟩) rfl rfl rfl
theorem tok_120 : TOk Tryz.prog 120 ⟨.other, 1, 8, true, .nilf⟩ := tok (inf := Tryz.t120) Tryz.type120 rfl Tryz.underlying120 (⟨fun _ => nofun, fun _ _ => nofun⟩) rfl rfl rfl
theorem tok_121 : TOk Tryz.prog 121 ⟨.slice 3, 1, 24, true, .nils⟩ := tok (inf := Tryz.t121) Tryz.type121 rfl Tryz.underlying121 (rfl) rfl rfl rfl
theorem tok_122 : TOk Tryz.prog 122 ⟨.other, 1, 8, true, .nilf⟩ := tok (inf := Tryz.t122) Tryz.type122 rfl Tryz.underlying122 (⟨fun _ => nofun, fun _ _ => nofun⟩) rfl rfl rfl
theorem tok_124 : TOk Tryz.prog 124 ⟨.other, 1, 8, true, .nilf⟩ := tok (inf := Tryz.t124) Tryz.type124 rfl Tryz.underlying124 (⟨fun _ => nofun, fun _ _ => nofun⟩) rfl rfl rfl
theorem tok_125 : TOk Tryz.prog 125 ⟨.int .u64, 1, 8, true, .n .u64 0⟩ := tok (inf := Tryz.t125) Tryz.type125 rfl Tryz.underlying125 (rfl) rfl rfl rfl
theorem tok_126 : TOk Tryz.prog 126 ⟨.struct [], 0, 0, true, .agg []⟩ := tok (inf := Tryz.t126) Tryz.type126 rfl Tryz.underlying126 (fitS rfl trivial) rfl rfl rfl
theorem tok_127 : TOk Tryz.prog 127 ⟨.struct [], 0, 0, true, .agg []⟩ := tok (inf := Tryz.t127) Tryz.type127 rfl Tryz.underlying127 (fitS rfl trivial) rfl rfl rfl
theorem tok_128 : TOk Tryz.prog 128 ⟨.struct [], 0, 0, true, .agg []⟩ := tok (inf := Tryz.t128) Tryz.type128 rfl Tryz.underlying128 (fitS rfl trivial) rfl rfl rfl
theorem tok_129 : TOk Tryz.prog 129 ⟨.struct [], 0, 0, true, .agg []⟩ := tok (inf := Tryz.t129) Tryz.type129 rfl Tryz.underlying129 (fitS rfl trivial) rfl rfl rfl
theorem tok_130 : TOk Tryz.prog 130 ⟨.struct [], 0, 0, true, .agg []⟩ := tok (inf := Tryz.t130) Tryz.type130 rfl Tryz.underlying130 (fitS rfl trivial) rfl rfl rfl
theorem tok_131 : TOk Tryz.prog 131 ⟨.other, 1, 8, true, .nilf⟩ := tok (inf := Tryz.t131) Tryz.type131 rfl Tryz.underlying131 (⟨fun _ => nofun, fun _ _ => nofun⟩) rfl rfl rfl
theorem tok_132 : TOk Tryz.prog 132 ⟨.other, 1, 8, true, .nilf⟩ := tok (inf := Tryz.t132) Tryz.type132 rfl Tryz.underlying132 (⟨fun _ => nofun, fun _ _ => nofun⟩) rfl rfl rfl
theorem tok_133 : TOk Tryz.prog 133 ⟨.other, 1, 8, true, .nilf⟩ := tok (inf := Tryz.t133) Tryz.type133 rfl Tryz.underlying133 (⟨fun _ => nofun, fun _ _ => nofun⟩) rfl rfl rfl
theorem tok_134 : TOk Tryz.prog 134 ⟨.array 4 30, 4, 16, true, .agg [.n .u32 0, .n .u32 0, .n .u32 0, .n .u32 0]⟩ := tok (inf := Tryz.t134) Tryz.type134 rfl Tryz.underlying134 (rfl) rfl rfl rfl
theorem tok_135 : TOk Tryz.prog 135 ⟨.other, 1, 8, true, .nilf⟩ := tok (inf := Tryz.t135) Tryz.type135 rfl Tryz.underlying135 (⟨fun _ => nofun, fun _ _ => nofun⟩) rfl rfl rfl
theorem tok_136 : TOk Tryz.prog 136 ⟨.other, 1, 8, true, .nilf⟩ := tok (inf := Tryz.t136) Tryz.type136 rfl Tryz.underlying136 (⟨fun _ => nofun, fun _ _ => nofun⟩) rfl rfl rfl
theorem tok_138 : TOk Tryz.prog 138 ⟨.other, 1, 8, true, .nilf⟩ := tok (inf := Tryz.t138) Tryz.type138 rfl Tryz.underlying138 (⟨fun _ => nofun, fun _ _ => nofun⟩) rfl rfl rfl
theorem tok_139 : TOk Tryz.prog 139 ⟨.other, 1, 8, true, .nilf⟩ := tok (inf := Tryz.t139) Tryz.type139 rfl Tryz.underlying139 (⟨fun _ => nofun, fun _ _ => nofun⟩) rfl rfl rfl
theorem tok_140 : TOk Tryz.prog 140 ⟨.other, 1, 8, true, .nilf⟩ := tok (inf := Tryz.t140) Tryz.type140 rfl Tryz.underlying140 (⟨fun _ => nofun, fun _ _ => nofun⟩) rfl rfl rfl
theorem tok_141 : TOk Tryz.prog 141 ⟨.other, 1, 8, true, .nilf⟩ := tok (inf := Tryz.t141) Tryz.type141 rfl Tryz.underlying141 (⟨fun _ => nofun, fun _ _ => nofun⟩) rfl rfl rfl
theorem tok_142 : TOk Tryz.prog 142 ⟨.other, 1, 8, true, .nilf⟩ := tok (inf := Tryz.t142) Tryz.type142 rfl Tryz.underlying142 (⟨fun _ => nofun, fun _ _ => nofun⟩) rfl rfl rfl
theorem tok_143 : TOk Tryz.prog 143 ⟨.other, 1, 8, true, .nilf⟩ := tok (inf := Tryz.t143) Tryz.type143 rfl Tryz.underlying143 (⟨fun _ => nofun, fun _ _ => nofun⟩) rfl rfl rfl
theorem tok_144 : TOk Tryz.prog 144 ⟨.other, 1, 8, true, .nilf⟩ := tok (inf := Tryz.t144) Tryz.type144 rfl Tryz.underlying144 (⟨fun _ => nofun, fun _ _ => nofun⟩) rfl rfl rfl
theorem tok_145 : TOk Tryz.prog 145 ⟨.other, 1, 8, true, .nilf⟩ := tok (inf := Tryz.t145) Tryz.type145 rfl Tryz.underlying145 (⟨fun _ => nofun, fun _ _ => nofun⟩) rfl rfl rfl
theorem tok_146 : TOk Tryz.prog 146 ⟨.other, 1, 8, true, .nilf⟩ := tok (inf := Tryz.t146) Tryz.type146 rfl Tryz.underlying146 (⟨fun _ => nofun, fun _ _ => nofun⟩) rfl rfl rfl
theorem tok_147 : TOk Tryz.prog 147 ⟨.struct [(0, 3), (1, 22), (2, 22)], 3, 24, true, .agg [.z 0, .n .u64 0, .n .u64 0]⟩ := tok (inf := Tryz.t147) Tryz.type147 rfl Tryz.underlying147 (fitS rfl ⟨⟨_, Tryz.type3, by decide⟩, ⟨_, Tryz.type22, by decide⟩, ⟨_, Tryz.type22, by decide⟩, trivial⟩) rfl rfl rfl
theorem tok_148 : TOk Tryz.prog 148 ⟨.struct [(0, 3), (1, 22), (2, 22)], 3, 24, true, .agg [.z 0, .n .u64 0, .n .u64 0]⟩ := tok (inf := Tryz.t148) Tryz.type148 rfl Tryz.underlying148 (fitS rfl ⟨⟨_, Tryz.type3, by decide⟩, ⟨_, Tryz.type22, by decide⟩, ⟨_, Tryz.type22, by decide⟩, trivial⟩) rfl rfl rfl
theorem tok_149 : TOk Tryz.prog 149 ⟨.array 3 148, 9, 72, true, .agg [.z 0, .n .u64 0, .n .u64 0, .z 0, .n .u64 0, .n .u64 0, .z 0, .n .u64 0, .n .u64 0]⟩ := tok (inf := Tryz.t149) Tryz.type149 rfl Tryz.underlying149 (rfl) rfl rfl rfl
theorem tok_150 : TOk Tryz.prog 150 ⟨.other, 1, 8, true, .nilf⟩ := tok (inf := Tryz.t150) Tryz.type150 rfl Tryz.underlying150 (⟨fun _ => nofun, fun _ _ => nofun⟩) rfl rfl rfl
theorem tok_151 : TOk Tryz.prog 151 ⟨.other, 1, 8, true, .nilf⟩ := tok (inf := Tryz.t151) Tryz.type151 rfl Tryz.underlying151 (⟨fun _ => nofun, fun _ _ => nofun⟩) rfl rfl rfl
theorem tok_160 : TOk Tryz.prog 160 ⟨.ptr 5, 1, 8, true, .nilp⟩ := tok (inf := Tryz.t160) Tryz.type160 rfl Tryz.underlying160 (rfl) rfl rfl rfl
theorem tok_165 : TOk Tryz.prog 165 ⟨.other, 1, 8, true, .nilf⟩ := tok (inf := Tryz.t165) Tryz.type165 rfl Tryz.underlying165 (⟨fun _ => nofun, fun _ _ => nofun⟩) rfl rfl rfl
theorem tok_166 : TOk Tryz.prog 166 ⟨.other, 1, 8, true, .nilf⟩ := tok (inf := Tryz.t166) Tryz.type166 rfl Tryz.underlying166 (⟨fun _ => nofun, fun _ _ => nofun⟩) rfl rfl rfl
theorem tok_167 : TOk Tryz.prog 167 ⟨.other, 1, 8, true, .nilf⟩ := tok (inf := Tryz.t167) Tryz.type167 rfl Tryz.underlying167 (⟨fun _ => nofun, fun _ _ => nofun⟩) rfl rfl rfl
theorem tok_168 : TOk Tryz.prog 168 ⟨.other, 1, 8, true, .nilf⟩ := tok (inf := Tryz.t168) Tryz.type168 rfl Tryz.underlying168 (⟨fun _ => nofun, fun _ _ => nofun⟩) rfl rfl rfl
theorem tok_169 : TOk Tryz.prog 169 ⟨.other, 1, 8, true, .nilf⟩ := tok (inf := Tryz.t169) Tryz.type169 rfl Tryz.underlying169 (⟨fun _ => nofun, fun _ _ => nofun⟩) rfl rfl rfl
theorem tok_171 : TOk Tryz.prog 171 ⟨.other, 1, 8, true, .nilf⟩ := tok (inf := Tryz.t171) Tryz.type171 rfl Tryz.underlying171 (⟨fun _ => nofun, fun _ _ => nofun⟩) rfl rfl rfl
theorem tok_172 : TOk Tryz.prog 172 ⟨.other, 1, 8, true, .nilf⟩ := tok (inf := Tryz.t172) Tryz.type172 rfl Tryz.underlying172 (⟨fun _ => nofun, fun _ _ => nofun⟩) rfl rfl rfl
theorem tok_173 : TOk Tryz.prog 173 ⟨.other, 1, 8, true, .nilf⟩ := tok (inf := Tryz.t173) Tryz.type173 rfl Tryz.underlying173 (⟨fun _ => nofun, fun _ _ => nofun⟩) rfl rfl rfl
theorem tok_174 : TOk Tryz.prog 174 ⟨.other, 1, 8, true, .nilf⟩ := tok (inf := Tryz.t174) Tryz.type174 rfl Tryz.underlying174 (⟨fun _ => nofun, fun _ _ => nofun⟩) rfl rfl rfl
theorem tok_175 : TOk Tryz.prog 175 ⟨.other, 1, 8, true, .nilf⟩ := tok (inf := Tryz.t175) Tryz.type175 rfl Tryz.underlying175 (⟨fun _ => nofun, fun _ _ => nofun⟩) rfl rfl rfl
theorem tok_176 : TOk Tryz.prog 176 ⟨.slice 22, 1, 24, true, .nils⟩ := tok (inf := Tryz.t176) Tryz.type176 rfl Tryz.underlying176 (rfl) rfl rfl rfl
theorem tok_177 : TOk Tryz.prog 177 ⟨.other, 1, 8, true, .nilf⟩ := tok (inf := Tryz.t177) Tryz.type177 rfl Tryz.underlying177 (⟨fun _ => nofun, fun _ _ => nofun⟩) rfl rfl rfl
theorem tok_178 : TOk Tryz.prog 178 ⟨.other, 1, 8, true, .nilf⟩ := tok (inf := Tryz.t178) Tryz.type178 rfl Tryz.underlying178 (⟨fun _ => nofun, fun _ _ => nofun⟩) rfl rfl rfl
theorem tok_179 : TOk Tryz.prog 179 ⟨.other, 1, 8, true, .nilf⟩ := tok (inf := Tryz.t179) Tryz.type179 rfl Tryz.underlying179 (⟨fun _ => nofun, fun _ _ => nofun⟩) rfl rfl rfl
theorem tok_180 : TOk Tryz.prog 180 ⟨.other, 1, 8, true, .nilf⟩ := tok (inf := Tryz.t180) Tryz.type180 rfl Tryz.underlying180 (⟨fun _ => nofun, fun _ _ => nofun⟩) rfl rfl rfl
theorem tok_182 : TOk Tryz.prog 182 ⟨.other, 1, 8, true, .nilf⟩ := tok (inf := Tryz.t182) Tryz.type182 rfl Tryz.underlying182 (⟨fun _ => nofun, fun _ _ => nofun⟩) rfl rfl rfl
theorem tok_183 : TOk Tryz.prog 183 ⟨.other, 1, 8, true, .nilf⟩ := tok (inf := Tryz.t183) Tryz.type183 rfl Tryz.underlying183 (⟨fun _ => nofun, fun _ _ => nofun⟩) rfl rfl rfl
theorem tok_184 : TOk Tryz.prog 184 ⟨.other, 1, 8, true, .nilf⟩ := tok (inf := Tryz.t184) Tryz.type184 rfl Tryz.underlying184 (⟨fun _ => nofun, fun _ _ => nofun⟩) rfl rfl rfl
theorem tok_185 : TOk Tryz.prog 185 ⟨.other, 1, 8, true, .nilf⟩ := tok (inf := Tryz.t185) Tryz.type185 rfl Tryz.underlying185 (⟨fun _ => nofun, fun _ _ => nofun⟩) rfl rfl rfl
theorem tok_186 : TOk Tryz.prog 186 ⟨.other, 1, 8, true, .nilf⟩ := tok (inf := Tryz.t186) Tryz.type186 rfl Tryz.underlying186 (⟨fun _ => nofun, fun _ _ => nofun⟩) rfl rfl rfl
theorem tok_187 : TOk Tryz.prog 187 ⟨.other, 1, 8, true, .nilf⟩ := tok (inf := Tryz.t187) Tryz.type187 rfl Tryz.underlying187 (⟨fun _ => nofun, fun _ _ => nofun⟩) rfl rfl rfl
theorem tok_188 : TOk Tryz.prog 188 ⟨.other, 1, 8, true, .nilf⟩ := tok (inf := Tryz.t188) Tryz.type188 rfl Tryz.underlying188 (⟨fun _ => nofun, fun _ _ => nofun⟩) rfl rfl rfl
theorem tok_189 : TOk Tryz.prog 189 ⟨.slice 4, 1, 24, true, .nils⟩ := tok (inf := Tryz.t189) Tryz.type189 rfl Tryz.underlying189 (rfl) rfl rfl rfl
theorem tok_191 : TOk Tryz.prog 191 ⟨.other, 1, 8, true, .nilf⟩ := tok (inf := Tryz.t191) Tryz.type191 rfl Tryz.underlying191 (⟨fun _ => nofun, fun _ _ => nofun⟩) rfl rfl rfl
theorem tok_193 : TOk Tryz.prog 193 ⟨.other, 1, 8, true, .nilf⟩ := tok (inf := Tryz.t193) Tryz.type193 rfl Tryz.underlying193 (⟨fun _ => nofun, fun _ _ => nofun⟩) rfl rfl rfl
theorem tok_194 : TOk Tryz.prog 194 ⟨.other, 1, 8, true, .nilf⟩ := tok (inf := Tryz.t194) Tryz.type194 rfl Tryz.underlying194 (⟨fun _ => nofun, fun _ _ => nofun⟩) rfl rfl rfl
theorem tok_195 : TOk Tryz.prog 195 ⟨.other, 1, 8, true, .nilf⟩ := tok (inf := Tryz.t195) Tryz.type195 rfl Tryz.underlying195 (⟨fun _ => nofun, fun _ _ => nofun⟩) rfl rfl rfl
theorem tok_196 : TOk Tryz.prog 196 ⟨.other, 1, 8, true, .nilf⟩ := tok (inf := Tryz.t196) Tryz.type196 rfl Tryz.underlying196 (⟨fun _ => nofun, fun _ _ => nofun⟩) rfl rfl rfl
theorem tok_197 : TOk Tryz.prog 197 ⟨.other, 1, 8, true, .nilf⟩ := tok (inf := Tryz.t197) Tryz.type197 rfl Tryz.underlying197 (⟨fun _ => nofun, fun _ _ => nofun⟩) rfl rfl rfl
theorem tok_198 : TOk Tryz.prog 198 ⟨.other, 1, 8, true, .nilf⟩ := tok (inf := Tryz.t198) Tryz.type198 rfl Tryz.underlying198 (⟨fun _ => nofun, fun _ _ => nofun⟩) rfl rfl rfl
theorem tok_199 : TOk Tryz.prog 199 ⟨.other, 1, 8, true, .nilf⟩ := tok (inf := Tryz.t199) Tryz.type199 rfl Tryz.underlying199 (⟨fun _ => nofun, fun _ _ => nofun⟩) rfl rfl rfl
theorem tok_200 : TOk Tryz.prog 200 ⟨.other, 1, 8, true, .nilf⟩ := tok (inf := Tryz.t200) Tryz.type200 rfl Tryz.underlying200 (⟨fun _ => nofun, fun _ _ => nofun⟩) rfl rfl rfl
theorem tok_201 : TOk Tryz.prog 201 ⟨.other, 1, 8, true, .nilf⟩ := tok (inf := Tryz.t201) Tryz.type201 rfl Tryz.underlying201 (⟨fun _ => nofun, fun _ _ => nofun⟩) rfl rfl rfl
theorem tok_202 : TOk Tryz.prog 202 ⟨.other, 1, 8, true, .nilf⟩ := tok (inf := Tryz.t202) Tryz.type202 rfl Tryz.underlying202 (⟨fun _ => nofun, fun _ _ => nofun⟩) rfl rfl rfl
theorem tok_203 : TOk Tryz.prog 203 ⟨.ptr 25, 1, 8, true, .nilp⟩ := tok (inf := Tryz.t203) Tryz.type203 rfl Tryz.underlying203 (rfl) rfl rfl rfl
theorem tok_204 : TOk Tryz.prog 204 ⟨.struct [(0, 176), (1, 176), (2, 3), (3, 3)], 4, 64, true, .agg [.nils, .nils, .z 0, .z 0]⟩ := tok (inf := Tryz.t204) Tryz.type204 rfl Tryz.underlying204 (fitS rfl ⟨⟨_, Tryz.type176, by decide⟩, ⟨_, Tryz.type176, by decide⟩, ⟨_, Tryz.type3, by decide⟩, ⟨_, Tryz.type3, by decide⟩, trivial⟩) rfl rfl rfl
theorem tok_205 : TOk Tryz.prog 205 ⟨.struct [(0, 176), (1, 176), (2, 3), (3, 3)], 4, 64, true, .agg [.nils, .nils, .z 0, .z 0]⟩ := tok (inf := Tryz.t205) Tryz.type205 rfl Tryz.underlying205 (fitS rfl ⟨⟨_, Tryz.type176, by decide⟩, ⟨_, Tryz.type176, by decide⟩, ⟨_, Tryz.type3, by decide⟩, ⟨_, Tryz.type3, by decide⟩, trivial⟩) rfl rfl rfl
theorem tok_206 : TOk Tryz.prog 206 ⟨.other, 1, 8, true, .nilf⟩ := tok (inf := Tryz.t206) Tryz.type206 rfl Tryz.underlying206 (⟨fun _ => nofun, fun _ _ => nofun⟩) rfl rfl rfl
theorem tok_208 : TOk Tryz.prog 208 ⟨.other, 1, 8, true, .nilf⟩ := tok (inf := Tryz.t208) Tryz.type208 rfl Tryz.underlying208 (⟨fun _ => nofun, fun _ _ => nofun⟩) rfl rfl rfl
theorem tok_209 : TOk Tryz.prog 209 ⟨.other, 1, 8, true, .nilf⟩ := tok (inf := Tryz.t209) Tryz.type209 rfl Tryz.underlying209 (⟨fun _ => nofun, fun _ _ => nofun⟩) rfl rfl rfl
theorem tok_210 : TOk Tryz.prog 210 ⟨.other, 1, 8, true, .nilf⟩ := tok (inf := Tryz.t210) Tryz.type210 rfl Tryz.underlying210 (⟨fun _ => nofun, fun _ _ => nofun⟩) rfl rfl rfl
theorem tok_211 : TOk Tryz.prog 211 ⟨.other, 1, 8, true, .nilf⟩ := tok (inf := Tryz.t211) Tryz.type211 rfl Tryz.underlying211 (⟨fun _ => nofun, fun _ _ => nofun⟩) rfl rfl rfl
theorem tok_212 : TOk Tryz.prog 212 ⟨.struct [(0, 176), (1, 176)], 2, 48, true, .agg [.nils, .nils]⟩ := tok (inf := Tryz.t212) Tryz.type212 rfl Tryz.underlying212 (fitS rfl ⟨⟨_, Tryz.type176, by decide⟩, ⟨_, Tryz.type176, by decide⟩, trivial⟩) rfl rfl rfl
theorem tok_213 : TOk Tryz.prog 213 ⟨.struct [(0, 176), (1, 176)], 2, 48, true, .agg [.nils, .nils]⟩ := tok (inf := Tryz.t213) Tryz.type213 rfl Tryz.underlying213 (fitS rfl ⟨⟨_, Tryz.type176, by decide⟩, ⟨_, Tryz.type176, by decide⟩, trivial⟩) rfl rfl rfl
theorem tok_214 : TOk Tryz.prog 214 ⟨.other, 1, 8, true, .nilf⟩ := tok (inf := Tryz.t214) Tryz.type214 rfl Tryz.underlying214 (⟨fun _ => nofun, fun _ _ => nofun⟩) rfl rfl rfl
theorem tok_216 : TOk Tryz.prog 216 ⟨.other, 1, 8, true, .nilf⟩ := tok (inf := Tryz.t216) Tryz.type216 rfl Tryz.underlying216 (⟨fun _ => nofun, fun _ _ => nofun⟩) rfl rfl rfl
theorem tok_217 : TOk Tryz.prog 217 ⟨.other, 1, 8, true, .nilf⟩ := tok (inf := Tryz.t217) Tryz.type217 rfl Tryz.underlying217 (⟨fun _ => nofun, fun _ _ => nofun⟩) rfl rfl rfl
theorem tok_218 : TOk Tryz.prog 218 ⟨.other, 1, 8, true, .nilf⟩ := tok (inf := Tryz.t218) Tryz.type218 rfl Tryz.underlying218 (⟨fun _ => nofun, fun _ _ => nofun⟩) rfl rfl rfl
theorem tok_219 : TOk Tryz.prog 219 ⟨.other, 1, 8, true, .nilf⟩ := tok (inf := Tryz.t219) Tryz.type219 rfl Tryz.underlying219 (⟨fun _ => nofun, fun _ _ => nofun⟩) rfl rfl rfl
theorem tok_220 : TOk Tryz.prog 220 ⟨.other, 1, 8, true, .nilf⟩ := tok (inf := Tryz.t220) Tryz.type220 rfl Tryz.underlying220 (⟨fun _ => nofun, fun _ _ => nofun⟩) rfl rfl rfl
theorem tok_221 : TOk Tryz.prog 221 ⟨.other, 1, 8, true, .nilf⟩ := tok (inf := Tryz.t221) Tryz.type221 rfl Tryz.underlying221 (⟨fun _ => nofun, fun _ _ => nofun⟩) rfl rfl rfl
theorem tok_222 : TOk Tryz.prog 222 ⟨.struct [(0, 27), (2, 27)], 4, 32, true, .agg [.n .u64 0, .n .u64 0, .n .u64 0, .n .u64 0]⟩ := tok (inf := Tryz.t222) Tryz.type222 rfl Tryz.underlying222 (fitS rfl ⟨⟨_, Tryz.type27, by decide⟩, ⟨_, Tryz.type27, by decide⟩, trivial⟩) rfl rfl rfl
theorem tok_223 : TOk Tryz.prog 223 ⟨.struct [(0, 27), (2, 27)], 4, 32, true, .agg [.n .u64 0, .n .u64 0, .n .u64 0, .n .u64 0]⟩ := tok (inf := Tryz.t223) Tryz.type223 rfl Tryz.underlying223 (fitS rfl ⟨⟨_, Tryz.type27, by decide⟩, ⟨_, Tryz.type27, by decide⟩, trivial⟩) rfl rfl rfl
theorem tok_224 : TOk Tryz.prog 224 ⟨.other, 1, 8, true, .nilf⟩ := tok (inf := Tryz.t224) Tryz.type224 rfl Tryz.underlying224 (⟨fun _ => nofun, fun _ _ => nofun⟩) rfl rfl rfl
theorem tok_225 : TOk Tryz.prog 225 ⟨.other, 1, 8, true, .nilf⟩ := tok (inf := Tryz.t225) Tryz.type225 rfl Tryz.underlying225 (⟨fun _ => nofun, fun _ _ => nofun⟩) rfl rfl rfl
theorem tok_226 : TOk Tryz.prog 226 ⟨.other, 1, 8, true, .nilf⟩ := tok (inf := Tryz.t226) Tryz.type226 rfl Tryz.underlying226 (⟨fun _ => nofun, fun _ _ => nofun⟩) rfl rfl rfl
theorem tok_227 : TOk Tryz.prog 227 ⟨.other, 1, 8, true, .nilf⟩ := tok (inf := Tryz.t227) Tryz.type227 rfl Tryz.underlying227 (⟨fun _ => nofun, fun _ _ => nofun⟩) rfl rfl rfl
theorem tok_228 : TOk Tryz.prog 228 ⟨.other, 1, 8, true, .nilf⟩ := tok (inf := Tryz.t228) Tryz.type228 rfl Tryz.underlying228 (⟨fun _ => nofun, fun _ _ => nofun⟩) rfl rfl rfl
theorem tok_229 : TOk Tryz.prog 229 ⟨.other, 1, 8, true, .nilf⟩ := tok (inf := Tryz.t229) Tryz.type229 rfl Tryz.underlying229 (⟨fun _ => nofun, fun _ _ => nofun⟩) rfl rfl rfl
theorem tok_230 : TOk Tryz.prog 230 ⟨.other, 1, 8, true, .nilf⟩ := tok (inf := Tryz.t230) Tryz.type230 rfl Tryz.underlying230 (⟨fun _ => nofun, fun _ _ => nofun⟩) rfl rfl rfl
theorem tok_231 : TOk Tryz.prog 231 ⟨.array 4 30, 4, 16, true, .agg [.n .u32 0, .n .u32 0, .n .u32 0, .n .u32 0]⟩ := tok (inf := Tryz.t231) Tryz.type231 rfl Tryz.underlying231 (rfl) rfl rfl rfl
theorem tok_232 : TOk Tryz.prog 232 ⟨.other, 1, 8, true, .nilf⟩ := tok (inf := Tryz.t232) Tryz.type232 rfl Tryz.underlying232 (⟨fun _ => nofun, fun _ _ => nofun⟩) rfl rfl rfl
theorem tok_233 : TOk Tryz.prog 233 ⟨.other, 1, 8, true, .nilf⟩ := tok (inf := Tryz.t233) Tryz.type233 rfl Tryz.underlying233 (⟨fun _ => nofun, fun _ _ => nofun⟩) rfl rfl rfl
theorem tok_234 : TOk Tryz.prog 234 ⟨.other, 1, 8, true, .nilf⟩ := tok (inf := Tryz.t234) Tryz.type234 rfl Tryz.underlying234 (⟨fun _ => nofun, fun _ _ => nofun⟩) rfl rfl rfl
theorem tok_235 : TOk Tryz.prog 235 ⟨.map 4 22, 1, 8, true, .nilm⟩ := tok (inf := Tryz.t235) Tryz.type235 rfl Tryz.underlying235 (rfl) rfl rfl rfl
theorem tok_237 : TOk Tryz.prog 237 ⟨.other, 1, 8, true, .nilf⟩ := tok (inf := Tryz.t237) Tryz.type237 rfl Tryz.underlying237 (⟨fun _ => nofun, fun _ _ => nofun⟩) rfl rfl rfl
theorem tok_238 : TOk Tryz.prog 238 ⟨.slice 243, 1, 24, true, .nils⟩ := tok (inf := Tryz.t238) Tryz.type238 rfl Tryz.underlying238 (rfl) rfl rfl rfl
theorem tok_240 : TOk Tryz.prog 240 ⟨.other, 1, 8, true, .nilf⟩ := tok (inf := Tryz.t240) Tryz.type240 rfl Tryz.underlying240 (⟨fun _ => nofun, fun _ _ => nofun⟩) rfl rfl rfl
theorem tok_241 : TOk Tryz.prog 241 ⟨.other, 1, 8, true, .nilf⟩ := tok (inf := Tryz.t241) Tryz.type241 rfl Tryz.underlying241 (⟨fun _ => nofun, fun _ _ => nofun⟩) rfl rfl rfl
theorem tok_242 : TOk Tryz.prog 242 ⟨.struct [(0, 241), (1, 241)], 2, 16, true, .agg [.nilf, .nilf]⟩ := tok (inf := Tryz.t242) Tryz.type242 rfl Tryz.underlying242 (fitS rfl ⟨⟨_, Tryz.type241, by decide⟩, ⟨_, Tryz.type241, by decide⟩, trivial⟩) rfl rfl rfl
theorem tok_243 : TOk Tryz.prog 243 ⟨.struct [(0, 241), (1, 241)], 2, 16, true, .agg [.nilf, .nilf]⟩ := tok (inf := Tryz.t243) Tryz.type243 rfl Tryz.underlying243 (fitS rfl ⟨⟨_, Tryz.type241, by decide⟩, ⟨_, Tryz.type241, by decide⟩, trivial⟩) rfl rfl rfl
theorem tok_244 : TOk Tryz.prog 244 ⟨.other, 1, 8, true, .nilf⟩ := tok (inf := Tryz.t244) Tryz.type244 rfl Tryz.underlying244 (⟨fun _ => nofun, fun _ _ => nofun⟩) rfl rfl rfl
theorem tok_245 : TOk Tryz.prog 245 ⟨.other, 1, 8, true, .nilf⟩ := tok (inf := Tryz.t245) Tryz.type245 rfl Tryz.underlying245 (⟨fun _ => nofun, fun _ _ => nofun⟩) rfl rfl rfl
theorem table_ok : Table.Ok Tryz.prog table :=
  .cons tok_1 (.cons tok_2 (.cons tok_3 (.cons tok_4 (.cons tok_5 (.cons tok_9 (.cons tok_12 (.cons tok_20 (.cons tok_22 (.cons tok_23 (.cons tok_24 (.cons tok_25 (.cons tok_26 (.cons tok_27 (.cons tok_28 (.cons tok_29 (.cons tok_30 (.cons tok_31 (.cons tok_32 (.cons tok_33 (.cons tok_34 (.cons tok_35 (.cons tok_36 (.cons tok_37 (.cons tok_39 (.cons tok_40 (.cons tok_41 (.cons tok_42 (.cons tok_43 (.cons tok_44 (.cons tok_45 (.cons tok_46 (.cons tok_48 (.cons tok_49 (.cons tok_50 (.cons tok_51 (.cons tok_53 (.cons tok_54 (.cons tok_55 (.cons tok_56 (.cons tok_57 (.cons tok_58 (.cons tok_59 (.cons tok_60 (.cons tok_61 (.cons tok_62 (.cons tok_63 (.cons tok_64 (.cons tok_65 (.cons tok_67 (.cons tok_68 (.cons tok_69 (.cons tok_70 (.cons tok_72 (.cons tok_73 (.cons tok_75 (.cons tok_76 (.cons tok_77 (.cons tok_78 (.cons tok_79 (.cons tok_80 (.cons tok_81 (.cons tok_83 (.cons tok_85 (.cons tok_86 (.cons tok_87 (.cons tok_88 (.cons tok_89 (.cons tok_90 (.cons tok_91 (.cons tok_92 (.cons tok_93 (.cons tok_94 (.cons tok_96 (.cons tok_97 (.cons tok_98 (.cons tok_99 (.cons tok_100 (.cons tok_101 (.cons tok_102 (.cons tok_103 (.cons tok_104 (.cons tok_105 (.cons tok_106 (.cons tok_107 (.cons tok_109 (.cons tok_110 (.cons tok_111 (.cons tok_112 (.cons tok_113 (.cons tok_114 (.cons tok_115 (.cons tok_116 (.cons tok_117 (.cons tok_118 (.cons tok_120 (.cons tok_121 (.cons tok_122 (.cons tok_124 (.cons tok_125 (.cons tok_126 (.cons tok_127 (.cons tok_128 (.cons tok_129 (.cons tok_130 (.cons tok_131 (.cons tok_132 (.cons tok_133 (.cons tok_134 (.cons tok_135 (.cons tok_136 (.cons tok_138 (.cons tok_139 (.cons tok_140 (.cons tok_141 (.cons tok_142 (.cons tok_143 (.cons tok_144 (.cons tok_145 (.cons tok_146 (.cons tok_147 (.cons tok_148 (.cons tok_149 (.cons tok_150 (.cons tok_151 (.cons tok_160 (.cons tok_165 (.cons tok_166 (.cons tok_167 (.cons tok_168 (.cons tok_169 (.cons tok_171 (.cons tok_172 (.cons tok_173 (.cons tok_174 (.cons tok_175 (.cons tok_176 (.cons tok_177 (.cons tok_178 (.cons tok_179 (.cons tok_180 (.cons tok_182 (.cons tok_183 (.cons tok_184 (.cons tok_185 (.cons tok_186 (.cons tok_187 (.cons tok_188 (.cons tok_189 (.cons tok_191 (.cons tok_193 (.cons tok_194 (.cons tok_195 (.cons tok_196 (.cons tok_197 (.cons tok_198 (.cons tok_199 (.cons tok_200 (.cons tok_201 (.cons tok_202 (.cons tok_203 (.cons tok_204 (.cons tok_205 (.cons tok_206 (.cons tok_208 (.cons tok_209 (.cons tok_210 (.cons tok_211 (.cons tok_212 (.cons tok_213 (.cons tok_214 (.cons tok_216 (.cons tok_217 (.cons tok_218 (.cons tok_219 (.cons tok_220 (.cons tok_221 (.cons tok_222 (.cons tok_223 (.cons tok_224 (.cons tok_225 (.cons tok_226 (.cons tok_227 (.cons tok_228 (.cons tok_229 (.cons tok_230 (.cons tok_231 (.cons tok_232 (.cons tok_233 (.cons tok_234 (.cons tok_235 (.cons tok_237 (.cons tok_238 (.cons tok_240 (.cons tok_241 (.cons tok_242 (.cons tok_243 (.cons tok_244 (.cons tok_245 .nil))))))))))))))))))))))))))))))))))))))))))))))))))))))))))))))))))))))))))))))))))))))))))))))))))))))))))))))))))))))))))))))))))))))))))))))))))))))))))))))))))))))))))))))))))))))))))))))))))))))
def eqTable : List (TypeId × List CK) := [(24, [.i .u64, .i .u64, .i .u64, .i .u64]), (25, [.i .u64, .i .u64, .i .u64, .i .u64]), (27, [.i .u64, .i .u64]), (36, [.i .i64, .i .u64, .i .u64, .i .u64, .i .u64, .i .u64, .i .u64, .i .u64, .i .u64, .i .u64, .i .u64, .i .u64, .i .u32, .i .u32, .b]), (42, [.i .u64, .i .u64, .i .u64, .i .u64]), (44, [.i .u64, .i .u64, .i .u32, .i .u32, .b]), (46, [.i .i64, .i .u64, .i .u64, .i .u64, .i .u64, .i .u64, .i .u64, .i .u64, .i .u64, .i .u64, .i .u64, .i .u64, .i .u32, .i .u32, .b])]
def E : TypeId → Option (List CK) := eqGet eqTable
@[go_sem] theorem E_24 : E 24 = some [.i .u64, .i .u64, .i .u64, .i .u64] := rfl
@[go_sem] theorem E_25 : E 25 = some [.i .u64, .i .u64, .i .u64, .i .u64] := rfl
@[go_sem] theorem E_27 : E 27 = some [.i .u64, .i .u64] := rfl
@[go_sem] theorem E_36 : E 36 = some [.i .i64, .i .u64, .i .u64, .i .u64, .i .u64, .i .u64, .i .u64, .i .u64, .i .u64, .i .u64, .i .u64, .i .u64, .i .u32, .i .u32, .b] := rfl
@[go_sem] theorem E_42 : E 42 = some [.i .u64, .i .u64, .i .u64, .i .u64] := rfl
@[go_sem] theorem E_44 : E 44 = some [.i .u64, .i .u64, .i .u32, .i .u32, .b] := rfl
@[go_sem] theorem E_46 : E 46 = some [.i .i64, .i .u64, .i .u64, .i .u64, .i .u64, .i .u64, .i .u64, .i .u64, .i .u64, .i .u64, .i .u64, .i .u64, .i .u32, .i .u32, .b] := rfl
theorem eq_24 : PlainEq Tryz.prog 24 [.i .u64, .i .u64, .i .u64, .i .u64] := plainEq_kinds (m := 3) (D := 3) (by omega) (by kernel_rfl) (by kernel_rfl) (by kernel_rfl) (by kernel_rfl)
theorem eq_25 : PlainEq Tryz.prog 25 [.i .u64, .i .u64, .i .u64, .i .u64] := plainEq_kinds (m := 3) (D := 3) (by omega) (by kernel_rfl) (by kernel_rfl) (by kernel_rfl) (by kernel_rfl)
theorem eq_27 : PlainEq Tryz.prog 27 [.i .u64, .i .u64] := plainEq_kinds (m := 3) (D := 3) (by omega) (by kernel_rfl) (by kernel_rfl) (by kernel_rfl) (by kernel_rfl)
theorem eq_36 : PlainEq Tryz.prog 36 [.i .i64, .i .u64, .i .u64, .i .u64, .i .u64, .i .u64, .i .u64, .i .u64, .i .u64, .i .u64, .i .u64, .i .u64, .i .u32, .i .u32, .b] := plainEq_kinds (m := 5) (D := 5) (by omega) (by kernel_rfl) (by kernel_rfl) (by kernel_rfl) (by kernel_rfl)
theorem eq_42 : PlainEq Tryz.prog 42 [.i .u64, .i .u64, .i .u64, .i .u64] := plainEq_kinds (m := 4) (D := 4) (by omega) (by kernel_rfl) (by kernel_rfl) (by kernel_rfl) (by kernel_rfl)
theorem eq_44 : PlainEq Tryz.prog 44 [.i .u64, .i .u64, .i .u32, .i .u32, .b] := plainEq_kinds (m := 4) (D := 4) (by omega) (by kernel_rfl) (by kernel_rfl) (by kernel_rfl) (by kernel_rfl)
theorem eq_46 : PlainEq Tryz.prog 46 [.i .i64, .i .u64, .i .u64, .i .u64, .i .u64, .i .u64, .i .u64, .i .u64, .i .u64, .i .u64, .i .u64, .i .u64, .i .u32, .i .u32, .b] := plainEq_kinds (m := 5) (D := 5) (by omega) (by kernel_rfl) (by kernel_rfl) (by kernel_rfl) (by kernel_rfl)
theorem eqs_ok : EqRows Tryz.prog eqTable :=
  .cons eq_24 (.cons eq_25 (.cons eq_27 (.cons eq_36 (.cons eq_42 (.cons eq_44 (.cons eq_46 (.nil)))))))
end Go.Proofs.YtggpbjhmpipplaaGreat.I
