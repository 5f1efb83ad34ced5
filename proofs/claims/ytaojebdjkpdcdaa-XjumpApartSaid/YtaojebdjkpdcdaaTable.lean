/- The seat's types, as rows. Printed by a program. -/
import Derived.Test.YtaojebdjkpdcdaaProg
import Derived.Test.YtaojebdjkpdcdaaM2
import Derived.KernelRfl
namespace Go.Proofs.Ytaojebdjkpdcdaa.I
open Go
set_option maxRecDepth 20000

def table : Table := [
  (1, ⟨.other, 1, 8, true, .nilf⟩),
  (2, ⟨.int .i64, 1, 8, true, .z 0⟩),
  (3, ⟨.int .i64, 1, 8, true, .z 0⟩),
  (4, ⟨.bool, 1, 1, true, .b false⟩),
  (5, ⟨.int .u8, 1, 1, true, .n .u8 0⟩),
  (9, ⟨.string, 1, 16, true, .s ByteArray.empty⟩),
  (12, ⟨.int .u64, 1, 8, true, .n .u64 0⟩),
  (20, ⟨.other, 1, 16, false, .nili⟩),
  (22, ⟨.slice 24, 1, 24, true, .nils⟩),
  (23, ⟨.slice 24, 1, 24, true, .nils⟩),
  (24, ⟨.int .u64, 1, 8, true, .n .u64 0⟩),
  (25, ⟨.struct [(0, 24), (1, 24)], 2, 16, true, .agg [.n .u64 0, .n .u64 0]⟩),
  (26, ⟨.struct [(0, 24), (1, 24)], 2, 16, true, .agg [.n .u64 0, .n .u64 0]⟩),
  (27, ⟨.other, 1, 8, true, .nilf⟩),
  (28, ⟨.other, 1, 8, true, .nilf⟩),
  (29, ⟨.int .i64, 1, 8, true, .z 0⟩),
  (31, ⟨.other, 1, 8, true, .nilf⟩),
  (32, ⟨.other, 1, 8, true, .nilf⟩),
  (33, ⟨.other, 1, 8, true, .nilf⟩),
  (34, ⟨.slice 3, 1, 24, true, .nils⟩),
  (35, ⟨.other, 1, 8, true, .nilf⟩),
  (36, ⟨.other, 1, 8, true, .nilf⟩),
  (37, ⟨.other, 1, 8, true, .nilf⟩),
  (38, ⟨.other, 1, 8, true, .nilf⟩),
  (39, ⟨.struct [(0, 24), (1, 24)], 2, 16, true, .agg [.n .u64 0, .n .u64 0]⟩),
  (40, ⟨.other, 1, 8, true, .nilf⟩),
  (41, ⟨.other, 1, 8, true, .nilf⟩),
  (42, ⟨.other, 1, 8, true, .nilf⟩),
  (43, ⟨.other, 1, 8, true, .nilf⟩),
  (44, ⟨.other, 1, 8, true, .nilf⟩),
  (45, ⟨.other, 1, 8, true, .nilf⟩),
  (46, ⟨.other, 1, 8, true, .nilf⟩),
  (47, ⟨.other, 1, 8, true, .nilf⟩),
  (48, ⟨.int .u32, 1, 4, true, .n .u32 0⟩),
  (49, ⟨.other, 1, 8, true, .nilf⟩),
  (50, ⟨.other, 1, 8, true, .nilf⟩),
  (51, ⟨.other, 1, 8, true, .nilf⟩),
  (52, ⟨.other, 1, 8, true, .nilf⟩),
  (53, ⟨.other, 1, 8, true, .nilf⟩),
  (54, ⟨.other, 1, 8, true, .nilf⟩),
  (55, ⟨.other, 1, 8, true, .nilf⟩),
  (56, ⟨.other, 1, 8, true, .nilf⟩),
  (57, ⟨.other, 1, 8, true, .nilf⟩),
  (58, ⟨.other, 1, 8, true, .nilf⟩),
  (60, ⟨.other, 1, 8, true, .nilf⟩),
  (61, ⟨.other, 1, 8, true, .nilf⟩),
  (62, ⟨.other, 1, 8, true, .nilf⟩),
  (63, ⟨.array 4 24, 4, 32, true, .agg [.n .u64 0, .n .u64 0, .n .u64 0, .n .u64 0]⟩),
  (64, ⟨.array 4 24, 4, 32, true, .agg [.n .u64 0, .n .u64 0, .n .u64 0, .n .u64 0]⟩),
  (66, ⟨.other, 1, 8, true, .nilf⟩),
  (67, ⟨.other, 1, 8, true, .nilf⟩),
  (68, ⟨.other, 1, 8, true, .nilf⟩),
  (69, ⟨.other, 1, 8, true, .nilf⟩),
  (70, ⟨.other, 1, 8, true, .nilf⟩),
  (71, ⟨.other, 1, 8, true, .nilf⟩),
  (72, ⟨.other, 1, 8, true, .nilf⟩),
  (73, ⟨.other, 1, 8, true, .nilf⟩),
  (74, ⟨.int .u16, 1, 2, true, .n .u16 0⟩),
  (75, ⟨.other, 1, 8, true, .nilf⟩),
  (76, ⟨.other, 1, 8, true, .nilf⟩),
  (77, ⟨.other, 1, 8, true, .nilf⟩),
  (78, ⟨.other, 1, 8, true, .nilf⟩),
  (79, ⟨.other, 1, 8, true, .nilf⟩),
  (80, ⟨.other, 1, 8, true, .nilf⟩),
  (81, ⟨.other, 1, 8, true, .nilf⟩),
  (82, ⟨.slice 23, 1, 24, true, .nils⟩),
  (83, ⟨.other, 1, 8, true, .nilf⟩),
  (84, ⟨.other, 1, 8, true, .nilf⟩),
  (85, ⟨.other, 1, 8, true, .nilf⟩),
  (86, ⟨.other, 1, 8, true, .nilf⟩),
  (87, ⟨.other, 1, 8, true, .nilf⟩),
  (88, ⟨.other, 1, 8, true, .nilf⟩),
  (90, ⟨.other, 1, 8, true, .nilf⟩),
  (91, ⟨.other, 1, 8, true, .nilf⟩),
  (92, ⟨.other, 1, 8, true, .nilf⟩),
  (94, ⟨.other, 1, 8, true, .nilf⟩),
  (95, ⟨.other, 1, 8, true, .nilf⟩),
  (97, ⟨.other, 1, 8, true, .nilf⟩),
  (98, ⟨.other, 1, 8, true, .nilf⟩),
  (99, ⟨.other, 1, 8, true, .nilf⟩),
  (100, ⟨.other, 1, 8, true, .nilf⟩),
  (101, ⟨.other, 1, 8, true, .nilf⟩),
  (102, ⟨.other, 1, 8, true, .nilf⟩),
  (103, ⟨.other, 1, 8, true, .nilf⟩),
  (104, ⟨.array 256 63, 1024, 8192, true, .agg ((zs 1024).map (V.n .u64))⟩),
  (105, ⟨.array 256 63, 1024, 8192, true, .agg ((zs 1024).map (V.n .u64))⟩),
  (106, ⟨.other, 1, 8, true, .nilf⟩),
  (107, ⟨.slice 4, 1, 24, true, .nils⟩),
  (109, ⟨.other, 1, 8, true, .nilf⟩),
  (111, ⟨.other, 1, 8, true, .nilf⟩),
  (112, ⟨.struct [(0, 23), (1, 23)], 2, 48, true, .agg [.nils, .nils]⟩),
  (113, ⟨.struct [(0, 23), (1, 23)], 2, 48, true, .agg [.nils, .nils]⟩),
  (114, ⟨.other, 1, 8, true, .nilf⟩),
  (115, ⟨.other, 1, 8, true, .nilf⟩),
  (116, ⟨.other, 1, 8, true, .nilf⟩),
  (117, ⟨.other, 1, 8, true, .nilf⟩),
  (118, ⟨.int .u64, 1, 8, true, .n .u64 0⟩),
  (119, ⟨.struct [(0, 23), (1, 23)], 2, 48, true, .agg [.nils, .nils]⟩),
  (120, ⟨.struct [(0, 23), (1, 23)], 2, 48, true, .agg [.nils, .nils]⟩),
  (121, ⟨.other, 1, 8, true, .nilf⟩),
  (122, ⟨.other, 1, 8, true, .nilf⟩),
  (123, ⟨.ptr 105, 1, 8, true, .nilp⟩),
  (124, ⟨.other, 1, 8, true, .nilf⟩),
  (125, ⟨.other, 1, 8, true, .nilf⟩),
  (126, ⟨.ptr 64, 1, 8, true, .nilp⟩),
  (127, ⟨.struct [(0, 23), (1, 23), (2, 3), (3, 3)], 4, 64, true, .agg [.nils, .nils, .z 0, .z 0]⟩),
  (128, ⟨.struct [(0, 23), (1, 23), (2, 3), (3, 3)], 4, 64, true, .agg [.nils, .nils, .z 0, .z 0]⟩),
  (129, ⟨.other, 1, 8, true, .nilf⟩),
  (130, ⟨.other, 1, 8, true, .nilf⟩),
  (136, ⟨.other, 1, 8, true, .nilf⟩),
  (140, ⟨.ptr 5, 1, 8, true, .nilp⟩)]

def T : TypeId → Option TI := table.get
@[go_sem] theorem T_1 : T 1 = some ⟨.other, 1, 8, true, .nilf⟩ := rfl   -- func()
@[go_sem] theorem T_2 : T 2 = some ⟨.int .i64, 1, 8, true, .z 0⟩ := rfl   -- int64
@[go_sem] theorem T_3 : T 3 = some ⟨.int .i64, 1, 8, true, .z 0⟩ := rfl   -- int
@[go_sem] theorem T_4 : T 4 = some ⟨.bool, 1, 1, true, .b false⟩ := rfl   -- bool
@[go_sem] theorem T_5 : T 5 = some ⟨.int .u8, 1, 1, true, .n .u8 0⟩ := rfl   -- uint8
@[go_sem] theorem T_9 : T 9 = some ⟨.string, 1, 16, true, .s ByteArray.empty⟩ := rfl   -- string
@[go_sem] theorem T_12 : T 12 = some ⟨.int .u64, 1, 8, true, .n .u64 0⟩ := rfl   -- uintptr
@[go_sem] theorem T_20 : T 20 = some ⟨.other, 1, 16, false, .nili⟩ := rfl   -- interface {}
@[go_sem] theorem T_22 : T 22 = some ⟨.slice 24, 1, 24, true, .nils⟩ := rfl   -- []uint64
@[go_sem] theorem T_23 : T 23 = some ⟨.slice 24, 1, 24, true, .nils⟩ := rfl   -- gfp.Poly
@[go_sem] theorem T_24 : T 24 = some ⟨.int .u64, 1, 8, true, .n .u64 0⟩ := rfl   -- uint64
@[go_sem] theorem T_25 : T 25 = some ⟨.struct [(0, 24), (1, 24)], 2, 16, true, .agg [.n .u64 0, .n .u64 0]⟩ := rfl   -- struct { Hi uint64; Lo uint64 }
@[go_sem] theorem T_26 : T 26 = some ⟨.struct [(0, 24), (1, 24)], 2, 16, true, .agg [.n .u64 0, .n .u64 0]⟩ := rfl   -- wide.U128
@[go_sem] theorem T_27 : T 27 = some ⟨.other, 1, 8, true, .nilf⟩ := rfl   -- func() bool
@[go_sem] theorem T_28 : T 28 = some ⟨.other, 1, 8, true, .nilf⟩ := rfl   -- func(...gfp.Poly) bool
@[go_sem] theorem T_29 : T 29 = some ⟨.int .i64, 1, 8, true, .z 0⟩ := rfl   -- api.Errno
@[go_sem] theorem T_31 : T 31 = some ⟨.other, 1, 8, true, .nilf⟩ := rfl   -- func(gfp.Poly, wide.U128, gfp.Poly) (gfp.Poly, api.Errno)
@[go_sem] theorem T_32 : T 32 = some ⟨.other, 1, 8, true, .nilf⟩ := rfl   -- func(wide.U128, gfp.Poly) (gfp.Poly, api.Errno)
@[go_sem] theorem T_33 : T 33 = some ⟨.other, 1, 8, true, .nilf⟩ := rfl   -- func(gfp.Poly, int, gfp.Poly) (gfp.Poly, api.Errno)
@[go_sem] theorem T_34 : T 34 = some ⟨.slice 3, 1, 24, true, .nils⟩ := rfl   -- []int
@[go_sem] theorem T_35 : T 35 = some ⟨.other, 1, 8, true, .nilf⟩ := rfl   -- func([]uint64) []int
@[go_sem] theorem T_36 : T 36 = some ⟨.other, 1, 8, true, .nilf⟩ := rfl   -- func([]uint64, []uint64) bool
@[go_sem] theorem T_37 : T 37 = some ⟨.other, 1, 8, true, .nilf⟩ := rfl   -- func([]int) []uint64
@[go_sem] theorem T_38 : T 38 = some ⟨.other, 1, 8, true, .nilf⟩ := rfl   -- func([]int, knuckleboneref01.U, []int) []int
@[go_sem] theorem T_39 : T 39 = some ⟨.struct [(0, 24), (1, 24)], 2, 16, true, .agg [.n .u64 0, .n .u64 0]⟩ := rfl   -- knuckleboneref01.U
@[go_sem] theorem T_40 : T 40 = some ⟨.other, 1, 8, true, .nilf⟩ := rfl   -- func(wide.U128) int
@[go_sem] theorem T_41 : T 41 = some ⟨.other, 1, 8, true, .nilf⟩ := rfl   -- func(knuckleboneref01.U) int
@[go_sem] theorem T_42 : T 42 = some ⟨.other, 1, 8, true, .nilf⟩ := rfl   -- func([]int, []int) []int
@[go_sem] theorem T_43 : T 43 = some ⟨.other, 1, 8, true, .nilf⟩ := rfl   -- func(gfp.Poly, gfp.Poly, wide.U128, int) bool
@[go_sem] theorem T_44 : T 44 = some ⟨.other, 1, 8, true, .nilf⟩ := rfl   -- func(gfp.Poly) int
@[go_sem] theorem T_45 : T 45 = some ⟨.other, 1, 8, true, .nilf⟩ := rfl   -- func(uint64) wide.U128
@[go_sem] theorem T_46 : T 46 = some ⟨.other, 1, 8, true, .nilf⟩ := rfl   -- func([]int, int, []int) []int
@[go_sem] theorem T_47 : T 47 = some ⟨.other, 1, 8, true, .nilf⟩ := rfl   -- func(gfp.Poly, gfp.Poly, uint8) bool
@[go_sem] theorem T_48 : T 48 = some ⟨.int .u32, 1, 4, true, .n .u32 0⟩ := rfl   -- uint32
@[go_sem] theorem T_49 : T 49 = some ⟨.other, 1, 8, true, .nilf⟩ := rfl   -- func(gfp.Poly, gfp.Poly) gfp.Poly
@[go_sem] theorem T_50 : T 50 = some ⟨.other, 1, 8, true, .nilf⟩ := rfl   -- func(gfp.Poly) bool
@[go_sem] theorem T_51 : T 51 = some ⟨.other, 1, 8, true, .nilf⟩ := rfl   -- func([]int) bool
@[go_sem] theorem T_52 : T 52 = some ⟨.other, 1, 8, true, .nilf⟩ := rfl   -- func(uint32, uint64, uint64) bool
@[go_sem] theorem T_53 : T 53 = some ⟨.other, 1, 8, true, .nilf⟩ := rfl   -- func(gfp.Poly, gfp.Poly, gfp.Poly) (gfp.Poly, api.Errno)
@[go_sem] theorem T_54 : T 54 = some ⟨.other, 1, 8, true, .nilf⟩ := rfl   -- func(uint64, uint64) wide.U128
@[go_sem] theorem T_55 : T 55 = some ⟨.other, 1, 8, true, .nilf⟩ := rfl   -- func(gfp.Poly, gfp.Poly) bool
@[go_sem] theorem T_56 : T 56 = some ⟨.other, 1, 8, true, .nilf⟩ := rfl   -- func(gfp.Poly, gfp.Poly, uint64, uint64) bool
@[go_sem] theorem T_57 : T 57 = some ⟨.other, 1, 8, true, .nilf⟩ := rfl   -- func(int) gfp.Poly
@[go_sem] theorem T_58 : T 58 = some ⟨.other, 1, 8, true, .nilf⟩ := rfl   -- func(gfp.Poly, gfp.Poly) (gfp.Poly, api.Errno)
@[go_sem] theorem T_60 : T 60 = some ⟨.other, 1, 8, true, .nilf⟩ := rfl   -- func(wide.U128, wide.U128) (wide.U128, bool)
@[go_sem] theorem T_61 : T 61 = some ⟨.other, 1, 8, true, .nilf⟩ := rfl   -- func(wide.U128, int) wide.U128
@[go_sem] theorem T_62 : T 62 = some ⟨.other, 1, 8, true, .nilf⟩ := rfl   -- func(uint64, uint64) bool
@[go_sem] theorem T_63 : T 63 = some ⟨.array 4 24, 4, 32, true, .agg [.n .u64 0, .n .u64 0, .n .u64 0, .n .u64 0]⟩ := rfl   -- [4]uint64
@[go_sem] theorem T_64 : T 64 = some ⟨.array 4 24, 4, 32, true, .agg [.n .u64 0, .n .u64 0, .n .u64 0, .n .u64 0]⟩ := rfl   -- xosh.State
@[go_sem] theorem T_66 : T 66 = some ⟨.other, 1, 8, true, .nilf⟩ := rfl   -- func(xosh.State, wide.U128) (xosh.State, api.Errno)
@[go_sem] theorem T_67 : T 67 = some ⟨.other, 1, 8, true, .nilf⟩ := rfl   -- func(xosh.State, int) (xosh.State, api.Errno)
@[go_sem] theorem T_68 : T 68 = some ⟨.other, 1, 8, true, .nilf⟩ := rfl   -- func(gfp.Poly, xosh.State) xosh.State
@[go_sem] theorem T_69 : T 69 = some ⟨.other, 1, 8, true, .nilf⟩ := rfl   -- func([]int, [4]uint64) [4]uint64
@[go_sem] theorem T_70 : T 70 = some ⟨.other, 1, 8, true, .nilf⟩ := rfl   -- func([4]uint64, int) [4]uint64
@[go_sem] theorem T_71 : T 71 = some ⟨.other, 1, 8, true, .nilf⟩ := rfl   -- func([4]uint64, []int) [4]uint64
@[go_sem] theorem T_72 : T 72 = some ⟨.other, 1, 8, true, .nilf⟩ := rfl   -- func(knuckleboneref01.U) []int
@[go_sem] theorem T_73 : T 73 = some ⟨.other, 1, 8, true, .nilf⟩ := rfl   -- func(xosh.State, wide.U128, int, gfp.Poly) bool
@[go_sem] theorem T_74 : T 74 = some ⟨.int .u16, 1, 2, true, .n .u16 0⟩ := rfl   -- uint16
@[go_sem] theorem T_75 : T 75 = some ⟨.other, 1, 8, true, .nilf⟩ := rfl   -- func(xosh.State, uint16) bool
@[go_sem] theorem T_76 : T 76 = some ⟨.other, 1, 8, true, .nilf⟩ := rfl   -- func(xosh.State) bool
@[go_sem] theorem T_77 : T 77 = some ⟨.other, 1, 8, true, .nilf⟩ := rfl   -- func(xosh.State, wide.U128, wide.U128) bool
@[go_sem] theorem T_78 : T 78 = some ⟨.other, 1, 8, true, .nilf⟩ := rfl   -- func() gfp.Poly
@[go_sem] theorem T_79 : T 79 = some ⟨.other, 1, 8, true, .nilf⟩ := rfl   -- func(xosh.State, gfp.Poly) bool
@[go_sem] theorem T_80 : T 80 = some ⟨.other, 1, 8, true, .nilf⟩ := rfl   -- func(xosh.State, xosh.State) xosh.State
@[go_sem] theorem T_81 : T 81 = some ⟨.other, 1, 8, true, .nilf⟩ := rfl   -- func(xosh.State, xosh.State, wide.U128, wide.U128) bool
@[go_sem] theorem T_82 : T 82 = some ⟨.slice 23, 1, 24, true, .nils⟩ := rfl   -- []gfp.Poly
@[go_sem] theorem T_83 : T 83 = some ⟨.other, 1, 8, true, .nilf⟩ := rfl   -- func(func(int) bool)
@[go_sem] theorem T_84 : T 84 = some ⟨.other, 1, 8, true, .nilf⟩ := rfl   -- iter.Seq[int]
@[go_sem] theorem T_85 : T 85 = some ⟨.other, 1, 8, true, .nilf⟩ := rfl   -- func(wide.U128) iter.Seq[int]
@[go_sem] theorem T_86 : T 86 = some ⟨.other, 1, 8, true, .nilf⟩ := rfl   -- func(uint64) []int
@[go_sem] theorem T_87 : T 87 = some ⟨.other, 1, 8, true, .nilf⟩ := rfl   -- func([]int) []int
@[go_sem] theorem T_88 : T 88 = some ⟨.other, 1, 8, true, .nilf⟩ := rfl   -- func([]int, int) uint64
@[go_sem] theorem T_90 : T 90 = some ⟨.other, 1, 8, true, .nilf⟩ := rfl   -- func([]int, []int) ([]int, []int)
@[go_sem] theorem T_91 : T 91 = some ⟨.other, 1, 8, true, .nilf⟩ := rfl   -- func(gfp.Poly) gfp.Poly
@[go_sem] theorem T_92 : T 92 = some ⟨.other, 1, 8, true, .nilf⟩ := rfl   -- func(uint64) int
@[go_sem] theorem T_94 : T 94 = some ⟨.other, 1, 8, true, .nilf⟩ := rfl   -- func(uint64, uint64) (uint64, uint64)
@[go_sem] theorem T_95 : T 95 = some ⟨.other, 1, 8, true, .nilf⟩ := rfl   -- func(gfp.Poly, int) gfp.Poly
@[go_sem] theorem T_97 : T 97 = some ⟨.other, 1, 8, true, .nilf⟩ := rfl   -- func(gfp.Poly, gfp.Poly) (gfp.Poly, gfp.Poly, api.Errno)
@[go_sem] theorem T_98 : T 98 = some ⟨.other, 1, 8, true, .nilf⟩ := rfl   -- func(uint64, uint64, uint64) (uint64, uint64)
@[go_sem] theorem T_99 : T 99 = some ⟨.other, 1, 8, true, .nilf⟩ := rfl   -- func(xosh.State) xosh.State
@[go_sem] theorem T_100 : T 100 = some ⟨.other, 1, 8, true, .nilf⟩ := rfl   -- func(wide.U128) gfp.Poly
@[go_sem] theorem T_101 : T 101 = some ⟨.other, 1, 8, true, .nilf⟩ := rfl   -- func(gfp.Poly, int) int
@[go_sem] theorem T_102 : T 102 = some ⟨.other, 1, 8, true, .nilf⟩ := rfl   -- func([4]uint64, [4]uint64) [4]uint64
@[go_sem] theorem T_103 : T 103 = some ⟨.other, 1, 8, true, .nilf⟩ := rfl   -- func([4]uint64) [4]uint64
@[go_sem] theorem T_104 : T 104 = some ⟨.array 256 63, 1024, 8192, true, .agg ((zs 1024).map (V.n .u64))⟩ := rfl   -- [256][4]uint64
@[go_sem] theorem T_105 : T 105 = some ⟨.array 256 63, 1024, 8192, true, .agg ((zs 1024).map (V.n .u64))⟩ := rfl   -- knuckleboneref08.Matrix
@[go_sem] theorem T_106 : T 106 = some ⟨.other, 1, 8, true, .nilf⟩ := rfl   -- func() knuckleboneref08.Matrix
@[go_sem] theorem T_107 : T 107 = some ⟨.slice 4, 1, 24, true, .nils⟩ := rfl   -- []bool
@[go_sem] theorem T_109 : T 109 = some ⟨.other, 1, 8, true, .nilf⟩ := rfl   -- func(xosh.State, int) ([]bool, api.Errno)
@[go_sem] theorem T_111 : T 111 = some ⟨.other, 1, 8, true, .nilf⟩ := rfl   -- func([]bool) (gfp.Poly, bool)
@[go_sem] theorem T_112 : T 112 = some ⟨.struct [(0, 23), (1, 23)], 2, 48, true, .agg [.nils, .nils]⟩ := rfl   -- struct { r gfp.Poly; s gfp.Poly }
@[go_sem] theorem T_113 : T 113 = some ⟨.struct [(0, 23), (1, 23)], 2, 48, true, .agg [.nils, .nils]⟩ := rfl   -- gfdiv.row
@[go_sem] theorem T_114 : T 114 = some ⟨.other, 1, 8, true, .nilf⟩ := rfl   -- func(gfp.Poly, gfp.Poly) gfdiv.row
@[go_sem] theorem T_115 : T 115 = some ⟨.other, 1, 8, true, .nilf⟩ := rfl   -- func(int) uint64
@[go_sem] theorem T_116 : T 116 = some ⟨.other, 1, 8, true, .nilf⟩ := rfl   -- func(int) bool
@[go_sem] theorem T_117 : T 117 = some ⟨.other, 1, 8, true, .nilf⟩ := rfl   -- func(wide.U128, int) int
@[go_sem] theorem T_118 : T 118 = some ⟨.int .u64, 1, 8, true, .n .u64 0⟩ := rfl   -- uint
@[go_sem] theorem T_119 : T 119 = some ⟨.struct [(0, 23), (1, 23)], 2, 48, true, .agg [.nils, .nils]⟩ := rfl   -- struct { q gfp.Poly; r gfp.Poly }
@[go_sem] theorem T_120 : T 120 = some ⟨.struct [(0, 23), (1, 23)], 2, 48, true, .agg [.nils, .nils]⟩ := rfl   -- gfdiv.part
@[go_sem] theorem T_121 : T 121 = some ⟨.other, 1, 8, true, .nilf⟩ := rfl   -- func(gfp.Poly, gfp.Poly) gfdiv.part
@[go_sem] theorem T_122 : T 122 = some ⟨.other, 1, 8, true, .nilf⟩ := rfl   -- func(uint64, int) uint64
@[go_sem] theorem T_123 : T 123 = some ⟨.ptr 105, 1, 8, true, .nilp⟩ := rfl   -- *knuckleboneref08.Matrix
@[go_sem] theorem T_124 : T 124 = some ⟨.other, 1, 8, true, .nilf⟩ := rfl   -- func() xosh.State
@[go_sem] theorem T_125 : T 125 = some ⟨.other, 1, 8, true, .nilf⟩ := rfl   -- func(*xosh.State) func() xosh.State
@[go_sem] theorem T_126 : T 126 = some ⟨.ptr 64, 1, 8, true, .nilp⟩ := rfl   -- *xosh.State
@[go_sem] theorem T_127 : T 127 = some ⟨.struct [(0, 23), (1, 23), (2, 3), (3, 3)], 4, 64, true, .agg [.nils, .nils, .z 0, .z 0]⟩ := rfl   -- struct { c gfp.Poly; b gfp.Poly; n int; ago int }
@[go_sem] theorem T_128 : T 128 = some ⟨.struct [(0, 23), (1, 23), (2, 3), (3, 3)], 4, 64, true, .agg [.nils, .nils, .z 0, .z 0]⟩ := rfl   -- massey.state
@[go_sem] theorem T_129 : T 129 = some ⟨.other, 1, 8, true, .nilf⟩ := rfl   -- func([]bool) massey.state
@[go_sem] theorem T_130 : T 130 = some ⟨.other, 1, 8, true, .nilf⟩ := rfl   -- func() string
@[go_sem] theorem T_136 : T 136 = some ⟨.other, 1, 8, true, .nilf⟩ := rfl   -- func() int
@[go_sem] theorem T_140 : T 140 = some ⟨.ptr 5, 1, 8, true, .nilp⟩ := rfl   -- *uint8
theorem tok_1 : TOk Try.prog 1 ⟨.other, 1, 8, true, .nilf⟩ := tok (inf := Try.t1) Try.type1 rfl Try.underlying1 (⟨fun _ => nofun, fun _ _ => nofun⟩) rfl rfl rfl
theorem tok_2 : TOk Try.prog 2 ⟨.int .i64, 1, 8, true, .z 0⟩ := tok (inf := Try.t2) Try.type2 rfl Try.underlying2 (rfl) rfl rfl rfl
theorem tok_3 : TOk Try.prog 3 ⟨.int .i64, 1, 8, true, .z 0⟩ := tok (inf := Try.t3) Try.type3 rfl Try.underlying3 (rfl) rfl rfl rfl
theorem tok_4 : TOk Try.prog 4 ⟨.bool, 1, 1, true, .b false⟩ := tok (inf := Try.t4) Try.type4 rfl Try.underlying4 (rfl) rfl rfl rfl
theorem tok_5 : TOk Try.prog 5 ⟨.int .u8, 1, 1, true, .n .u8 0⟩ := tok (inf := Try.t5) Try.type5 rfl Try.underlying5 (rfl) rfl rfl rfl
theorem tok_9 : TOk Try.prog 9 ⟨.string, 1, 16, true, .s ByteArray.empty⟩ := tok (inf := Try.t9) Try.type9 rfl Try.underlying9 (rfl) rfl rfl rfl
theorem tok_12 : TOk Try.prog 12 ⟨.int .u64, 1, 8, true, .n .u64 0⟩ := tok (inf := Try.t12) Try.type12 rfl Try.underlying12 (rfl) rfl rfl rfl
theorem tok_20 : TOk Try.prog 20 ⟨.other, 1, 16, false, .nili⟩ := tok (inf := Try.t20) Try.type20 rfl Try.underlying20 (⟨fun _ => nofun, fun _ _ => nofun⟩) rfl rfl rfl
theorem tok_22 : TOk Try.prog 22 ⟨.slice 24, 1, 24, true, .nils⟩ := tok (inf := Try.t22) Try.type22 rfl Try.underlying22 (rfl) rfl rfl rfl
theorem tok_23 : TOk Try.prog 23 ⟨.slice 24, 1, 24, true, .nils⟩ := tok (inf := Try.t23) Try.type23 rfl Try.underlying23 (rfl) rfl rfl rfl
theorem tok_24 : TOk Try.prog 24 ⟨.int .u64, 1, 8, true, .n .u64 0⟩ := tok (inf := Try.t24) Try.type24 rfl Try.underlying24 (rfl) rfl rfl rfl
theorem tok_25 : TOk Try.prog 25 ⟨.struct [(0, 24), (1, 24)], 2, 16, true, .agg [.n .u64 0, .n .u64 0]⟩ := tok (inf := Try.t25) Try.type25 rfl Try.underlying25 (fitS rfl ⟨⟨_, Try.type24, by decide⟩, ⟨_, Try.type24, by decide⟩, trivial⟩) rfl rfl rfl
theorem tok_26 : TOk Try.prog 26 ⟨.struct [(0, 24), (1, 24)], 2, 16, true, .agg [.n .u64 0, .n .u64 0]⟩ := tok (inf := Try.t26) Try.type26 rfl Try.underlying26 (fitS rfl ⟨⟨_, Try.type24, by decide⟩, ⟨_, Try.type24, by decide⟩, trivial⟩) rfl rfl rfl
theorem tok_27 : TOk Try.prog 27 ⟨.other, 1, 8, true, .nilf⟩ := tok (inf := Try.t27) Try.type27 rfl Try.underlying27 (⟨fun _ => nofun, fun _ _ => nofun⟩) rfl rfl rfl
theorem tok_28 : TOk Try.prog 28 ⟨.other, 1, 8, true, .nilf⟩ := tok (inf := Try.t28) Try.type28 rfl Try.underlying28 (⟨fun _ => nofun, fun _ _ => nofun⟩) rfl rfl rfl
theorem tok_29 : TOk Try.prog 29 ⟨.int .i64, 1, 8, true, .z 0⟩ := tok (inf := Try.t29) Try.type29 rfl Try.underlying29 (rfl) rfl rfl rfl
theorem tok_31 : TOk Try.prog 31 ⟨.other, 1, 8, true, .nilf⟩ := tok (inf := Try.t31) Try.type31 rfl Try.underlying31 (⟨fun _ => nofun, fun _ _ => nofun⟩) rfl rfl rfl
theorem tok_32 : TOk Try.prog 32 ⟨.other, 1, 8, true, .nilf⟩ := tok (inf := Try.t32) Try.type32 rfl Try.underlying32 (⟨fun _ => nofun, fun _ _ => nofun⟩) rfl rfl rfl
theorem tok_33 : TOk Try.prog 33 ⟨.other, 1, 8, true, .nilf⟩ := tok (inf := Try.t33) Try.type33 rfl Try.underlying33 (⟨fun _ => nofun, fun _ _ => nofun⟩) rfl rfl rfl
theorem tok_34 : TOk Try.prog 34 ⟨.slice 3, 1, 24, true, .nils⟩ := tok (inf := Try.t34) Try.type34 rfl Try.underlying34 (rfl) rfl rfl rfl
theorem tok_35 : TOk Try.prog 35 ⟨.other, 1, 8, true, .nilf⟩ := tok (inf := Try.t35) Try.type35 rfl Try.underlying35 (⟨fun _ => nofun, fun _ _ => nofun⟩) rfl rfl rfl
theorem tok_36 : TOk Try.prog 36 ⟨.other, 1, 8, true, .nilf⟩ := tok (inf := Try.t36) Try.type36 rfl Try.underlying36 (⟨fun _ => nofun, fun _ _ => nofun⟩) rfl rfl rfl
theorem tok_37 : TOk Try.prog 37 ⟨.other, 1, 8, true, .nilf⟩ := tok (inf := Try.t37) Try.type37 rfl Try.underlying37 (⟨fun _ => nofun, fun _ _ => nofun⟩) rfl rfl rfl
theorem tok_38 : TOk Try.prog 38 ⟨.other, 1, 8, true, .nilf⟩ := tok (inf := Try.t38) Try.type38 rfl Try.underlying38 (⟨fun _ => nofun, fun _ _ => nofun⟩) rfl rfl rfl
theorem tok_39 : TOk Try.prog 39 ⟨.struct [(0, 24), (1, 24)], 2, 16, true, .agg [.n .u64 0, .n .u64 0]⟩ := tok (inf := Try.t39) Try.type39 rfl Try.underlying39 (fitS rfl ⟨⟨_, Try.type24, by decide⟩, ⟨_, Try.type24, by decide⟩, trivial⟩) rfl rfl rfl
theorem tok_40 : TOk Try.prog 40 ⟨.other, 1, 8, true, .nilf⟩ := tok (inf := Try.t40) Try.type40 rfl Try.underlying40 (⟨fun _ => nofun, fun _ _ => nofun⟩) rfl rfl rfl
theorem tok_41 : TOk Try.prog 41 ⟨.other, 1, 8, true, .nilf⟩ := tok (inf := Try.t41) Try.type41 rfl Try.underlying41 (⟨fun _ => nofun, fun _ _ => nofun⟩) rfl rfl rfl
theorem tok_42 : TOk Try.prog 42 ⟨.other, 1, 8, true, .nilf⟩ := tok (inf := Try.t42) Try.type42 rfl Try.underlying42 (⟨fun _ => nofun, fun _ _ => nofun⟩) rfl rfl rfl
theorem tok_43 : TOk Try.prog 43 ⟨.other, 1, 8, true, .nilf⟩ := tok (inf := Try.t43) Try.type43 rfl Try.underlying43 (⟨fun _ => nofun, fun _ _ => nofun⟩) rfl rfl rfl
theorem tok_44 : TOk Try.prog 44 ⟨.other, 1, 8, true, .nilf⟩ := tok (inf := Try.t44) Try.type44 rfl Try.underlying44 (⟨fun _ => nofun, fun _ _ => nofun⟩) rfl rfl rfl
theorem tok_45 : TOk Try.prog 45 ⟨.other, 1, 8, true, .nilf⟩ := tok (inf := Try.t45) Try.type45 rfl Try.underlying45 (⟨fun _ => nofun, fun _ _ => nofun⟩) rfl rfl rfl
theorem tok_46 : TOk Try.prog 46 ⟨.other, 1, 8, true, .nilf⟩ := tok (inf := Try.t46) Try.type46 rfl Try.underlying46 (⟨fun _ => nofun, fun _ _ => nofun⟩) rfl rfl rfl
theorem tok_47 : TOk Try.prog 47 ⟨.other, 1, 8, true, .nilf⟩ := tok (inf := Try.t47) Try.type47 rfl Try.underlying47 (⟨fun _ => nofun, fun _ _ => nofun⟩) rfl rfl rfl
theorem tok_48 : TOk Try.prog 48 ⟨.int .u32, 1, 4, true, .n .u32 0⟩ := tok (inf := Try.t48) Try.type48 rfl Try.underlying48 (rfl) rfl rfl rfl
theorem tok_49 : TOk Try.prog 49 ⟨.other, 1, 8, true, .nilf⟩ := tok (inf := Try.t49) Try.type49 rfl Try.underlying49 (⟨fun _ => nofun, fun _ _ => nofun⟩) rfl rfl rfl
theorem tok_50 : TOk Try.prog 50 ⟨.other, 1, 8, true, .nilf⟩ := tok (inf := Try.t50) Try.type50 rfl Try.underlying50 (⟨fun _ => nofun, fun _ _ => nofun⟩) rfl rfl rfl
theorem tok_51 : TOk Try.prog 51 ⟨.other, 1, 8, true, .nilf⟩ := tok (inf := Try.t51) Try.type51 rfl Try.underlying51 (⟨fun _ => nofun, fun _ _ => nofun⟩) rfl rfl rfl
theorem tok_52 : TOk Try.prog 52 ⟨.other, 1, 8, true, .nilf⟩ := tok (inf := Try.t52) Try.type52 rfl Try.underlying52 (⟨fun _ => nofun, fun _ _ => nofun⟩) rfl rfl rfl
theorem tok_53 : TOk Try.prog 53 ⟨.other, 1, 8, true, .nilf⟩ := tok (inf := Try.t53) Try.type53 rfl Try.underlying53 (⟨fun _ => nofun, fun _ _ => nofun⟩) rfl rfl rfl
theorem tok_54 : TOk Try.prog 54 ⟨.other, 1, 8, true, .nilf⟩ := tok (inf := Try.t54) Try.type54 rfl Try.underlying54 (⟨fun _ => nofun, fun _ _ => nofun⟩) rfl rfl rfl
theorem tok_55 : TOk Try.prog 55 ⟨.other, 1, 8, true, .nilf⟩ := tok (inf := Try.t55) Try.type55 rfl Try.underlying55 (⟨fun _ => nofun, fun _ _ => nofun⟩) rfl rfl rfl
theorem tok_56 : TOk Try.prog 56 ⟨.other, 1, 8, true, .nilf⟩ := tok (inf := Try.t56) Try.type56 rfl Try.underlying56 (⟨fun _ => nofun, fun _ _ => nofun⟩) rfl rfl rfl
theorem tok_57 : TOk Try.prog 57 ⟨.other, 1, 8, true, .nilf⟩ := tok (inf := Try.t57) Try.type57 rfl Try.underlying57 (⟨fun _ => nofun, fun _ _ => nofun⟩) rfl rfl rfl
theorem tok_58 : TOk Try.prog 58 ⟨.other, 1, 8, true, .nilf⟩ := tok (inf := Try.t58) Try.type58 rfl Try.underlying58 (⟨fun _ => nofun, fun _ _ => nofun⟩) rfl rfl rfl
theorem tok_60 : TOk Try.prog 60 ⟨.other, 1, 8, true, .nilf⟩ := tok (inf := Try.t60) Try.type60 rfl Try.underlying60 (⟨fun _ => nofun, fun _ _ => nofun⟩) rfl rfl rfl
theorem tok_61 : TOk Try.prog 61 ⟨.other, 1, 8, true, .nilf⟩ := tok (inf := Try.t61) Try.type61 rfl Try.underlying61 (⟨fun _ => nofun, fun _ _ => nofun⟩) rfl rfl rfl
theorem tok_62 : TOk Try.prog 62 ⟨.other, 1, 8, true, .nilf⟩ := tok (inf := Try.t62) Try.type62 rfl Try.underlying62 (⟨fun _ => nofun, fun _ _ => nofun⟩) rfl rfl rfl
theorem tok_63 : TOk Try.prog 63 ⟨.array 4 24, 4, 32, true, .agg [.n .u64 0, .n .u64 0, .n .u64 0, .n .u64 0]⟩ := tok (inf := Try.t63) Try.type63 rfl Try.underlying63 (rfl) rfl rfl rfl
theorem tok_64 : TOk Try.prog 64 ⟨.array 4 24, 4, 32, true, .agg [.n .u64 0, .n .u64 0, .n .u64 0, .n .u64 0]⟩ := tok (inf := Try.t64) Try.type64 rfl Try.underlying64 (rfl) rfl rfl rfl
theorem tok_66 : TOk Try.prog 66 ⟨.other, 1, 8, true, .nilf⟩ := tok (inf := Try.t66) Try.type66 rfl Try.underlying66 (⟨fun _ => nofun, fun _ _ => nofun⟩) rfl rfl rfl
theorem tok_67 : TOk Try.prog 67 ⟨.other, 1, 8, true, .nilf⟩ := tok (inf := Try.t67) Try.type67 rfl Try.underlying67 (⟨fun _ => nofun, fun _ _ => nofun⟩) rfl rfl rfl
theorem tok_68 : TOk Try.prog 68 ⟨.other, 1, 8, true, .nilf⟩ := tok (inf := Try.t68) Try.type68 rfl Try.underlying68 (⟨fun _ => nofun, fun _ _ => nofun⟩) rfl rfl rfl
theorem tok_69 : TOk Try.prog 69 ⟨.other, 1, 8, true, .nilf⟩ := tok (inf := Try.t69) Try.type69 rfl Try.underlying69 (⟨fun _ => nofun, fun _ _ => nofun⟩) rfl rfl rfl
theorem tok_70 : TOk Try.prog 70 ⟨.other, 1, 8, true, .nilf⟩ := tok (inf := Try.t70) Try.type70 rfl Try.underlying70 (⟨fun _ => nofun, fun _ _ => nofun⟩) rfl rfl rfl
theorem tok_71 : TOk Try.prog 71 ⟨.other, 1, 8, true, .nilf⟩ := tok (inf := Try.t71) Try.type71 rfl Try.underlying71 (⟨fun _ => nofun, fun _ _ => nofun⟩) rfl rfl rfl
theorem tok_72 : TOk Try.prog 72 ⟨.other, 1, 8, true, .nilf⟩ := tok (inf := Try.t72) Try.type72 rfl Try.underlying72 (⟨fun _ => nofun, fun _ _ => nofun⟩) rfl rfl rfl
theorem tok_73 : TOk Try.prog 73 ⟨.other, 1, 8, true, .nilf⟩ := tok (inf := Try.t73) Try.type73 rfl Try.underlying73 (⟨fun _ => nofun, fun _ _ => nofun⟩) rfl rfl rfl
theorem tok_74 : TOk Try.prog 74 ⟨.int .u16, 1, 2, true, .n .u16 0⟩ := tok (inf := Try.t74) Try.type74 rfl Try.underlying74 (rfl) rfl rfl rfl
theorem tok_75 : TOk Try.prog 75 ⟨.other, 1, 8, true, .nilf⟩ := tok (inf := Try.t75) Try.type75 rfl Try.underlying75 (⟨fun _ => nofun, fun _ _ => nofun⟩) rfl rfl rfl
theorem tok_76 : TOk Try.prog 76 ⟨.other, 1, 8, true, .nilf⟩ := tok (inf := Try.t76) Try.type76 rfl Try.underlying76 (⟨fun _ => nofun, fun _ _ => nofun⟩) rfl rfl rfl
theorem tok_77 : TOk Try.prog 77 ⟨.other, 1, 8, true, .nilf⟩ := tok (inf := Try.t77) Try.type77 rfl Try.underlying77 (⟨fun _ => nofun, fun _ _ => nofun⟩) rfl rfl rfl
theorem tok_78 : TOk Try.prog 78 ⟨.other, 1, 8, true, .nilf⟩ := tok (inf := Try.t78) Try.type78 rfl Try.underlying78 (⟨fun _ => nofun, fun _ _ => nofun⟩) rfl rfl rfl
theorem tok_79 : TOk Try.prog 79 ⟨.other, 1, 8, true, .nilf⟩ := tok (inf := Try.t79) Try.type79 rfl Try.underlying79 (⟨fun _ => nofun, fun _ _ => nofun⟩) rfl rfl rfl
theorem tok_80 : TOk Try.prog 80 ⟨.other, 1, 8, true, .nilf⟩ := tok (inf := Try.t80) Try.type80 rfl Try.underlying80 (⟨fun _ => nofun, fun _ _ => nofun⟩) rfl rfl rfl
theorem tok_81 : TOk Try.prog 81 ⟨.other, 1, 8, true, .nilf⟩ := tok (inf := Try.t81) Try.type81 rfl Try.underlying81 (⟨fun _ => nofun, fun _ _ => nofun⟩) rfl rfl rfl
theorem tok_82 : TOk Try.prog 82 ⟨.slice 23, 1, 24, true, .nils⟩ := tok (inf := Try.t82) Try.type82 rfl Try.underlying82 (rfl) rfl rfl rfl
theorem tok_83 : TOk Try.prog 83 ⟨.other, 1, 8, true, .nilf⟩ := tok (inf := Try.t83) Try.type83 rfl Try.underlying83 (⟨fun _ => nofun, fun _ _ => nofun⟩) rfl rfl rfl
theorem tok_84 : TOk Try.prog 84 ⟨.other, 1, 8, true, .nilf⟩ := tok (inf := Try.t84) Try.type84 rfl Try.underlying84 (⟨fun _ => nofun, fun _ _ => nofun⟩) rfl rfl rfl
theorem tok_85 : TOk Try.prog 85 ⟨.other, 1, 8, true, .nilf⟩ := tok (inf := Try.t85) Try.type85 rfl Try.underlying85 (⟨fun _ => nofun, fun _ _ => nofun⟩) rfl rfl rfl
theorem tok_86 : TOk Try.prog 86 ⟨.other, 1, 8, true, .nilf⟩ := tok (inf := Try.t86) Try.type86 rfl Try.underlying86 (⟨fun _ => nofun, fun _ _ => nofun⟩) rfl rfl rfl
theorem tok_87 : TOk Try.prog 87 ⟨.other, 1, 8, true, .nilf⟩ := tok (inf := Try.t87) Try.type87 rfl Try.underlying87 (⟨fun _ => nofun, fun _ _ => nofun⟩) rfl rfl rfl
theorem tok_88 : TOk Try.prog 88 ⟨.other, 1, 8, true, .nilf⟩ := tok (inf := Try.t88) Try.type88 rfl Try.underlying88 (⟨fun _ => nofun, fun _ _ => nofun⟩) rfl rfl rfl
theorem tok_90 : TOk Try.prog 90 ⟨.other, 1, 8, true, .nilf⟩ := tok (inf := Try.t90) Try.type90 rfl Try.underlying90 (⟨fun _ => nofun, fun _ _ => nofun⟩) rfl rfl rfl
theorem tok_91 : TOk Try.prog 91 ⟨.other, 1, 8, true, .nilf⟩ := tok (inf := Try.t91) Try.type91 rfl Try.underlying91 (⟨fun _ => nofun, fun _ _ => nofun⟩) rfl rfl rfl
theorem tok_92 : TOk Try.prog 92 ⟨.other, 1, 8, true, .nilf⟩ := tok (inf := Try.t92) Try.type92 rfl Try.underlying92 (⟨fun _ => nofun, fun _ _ => nofun⟩) rfl rfl rfl
theorem tok_94 : TOk Try.prog 94 ⟨.other, 1, 8, true, .nilf⟩ := tok (inf := Try.t94) Try.type94 rfl Try.underlying94 (⟨fun _ => nofun, fun _ _ => nofun⟩) rfl rfl rfl
theorem tok_95 : TOk Try.prog 95 ⟨.other, 1, 8, true, .nilf⟩ := tok (inf := Try.t95) Try.type95 rfl Try.underlying95 (⟨fun _ => nofun, fun _ _ => nofun⟩) rfl rfl rfl
theorem tok_97 : TOk Try.prog 97 ⟨.other, 1, 8, true, .nilf⟩ := tok (inf := Try.t97) Try.type97 rfl Try.underlying97 (⟨fun _ => nofun, fun _ _ => nofun⟩) rfl rfl rfl
theorem tok_98 : TOk Try.prog 98 ⟨.other, 1, 8, true, .nilf⟩ := tok (inf := Try.t98) Try.type98 rfl Try.underlying98 (⟨fun _ => nofun, fun _ _ => nofun⟩) rfl rfl rfl
theorem tok_99 : TOk Try.prog 99 ⟨.other, 1, 8, true, .nilf⟩ := tok (inf := Try.t99) Try.type99 rfl Try.underlying99 (⟨fun _ => nofun, fun _ _ => nofun⟩) rfl rfl rfl
theorem tok_100 : TOk Try.prog 100 ⟨.other, 1, 8, true, .nilf⟩ := tok (inf := Try.t100) Try.type100 rfl Try.underlying100 (⟨fun _ => nofun, fun _ _ => nofun⟩) rfl rfl rfl
theorem tok_101 : TOk Try.prog 101 ⟨.other, 1, 8, true, .nilf⟩ := tok (inf := Try.t101) Try.type101 rfl Try.underlying101 (⟨fun _ => nofun, fun _ _ => nofun⟩) rfl rfl rfl
theorem tok_102 : TOk Try.prog 102 ⟨.other, 1, 8, true, .nilf⟩ := tok (inf := Try.t102) Try.type102 rfl Try.underlying102 (⟨fun _ => nofun, fun _ _ => nofun⟩) rfl rfl rfl
theorem tok_103 : TOk Try.prog 103 ⟨.other, 1, 8, true, .nilf⟩ := tok (inf := Try.t103) Try.type103 rfl Try.underlying103 (⟨fun _ => nofun, fun _ _ => nofun⟩) rfl rfl rfl
theorem tok_104 : TOk Try.prog 104 ⟨.array 256 63, 1024, 8192, true, .agg ((zs 1024).map (V.n .u64))⟩ := tok (inf := Try.t104) Try.type104 rfl Try.underlying104 (rfl) (by kernel_rfl) rfl (by kernel_rfl)
theorem tok_105 : TOk Try.prog 105 ⟨.array 256 63, 1024, 8192, true, .agg ((zs 1024).map (V.n .u64))⟩ := tok (inf := Try.t105) Try.type105 rfl Try.underlying105 (rfl) (by kernel_rfl) rfl (by kernel_rfl)
theorem tok_106 : TOk Try.prog 106 ⟨.other, 1, 8, true, .nilf⟩ := tok (inf := Try.t106) Try.type106 rfl Try.underlying106 (⟨fun _ => nofun, fun _ _ => nofun⟩) rfl rfl rfl
theorem tok_107 : TOk Try.prog 107 ⟨.slice 4, 1, 24, true, .nils⟩ := tok (inf := Try.t107) Try.type107 rfl Try.underlying107 (rfl) rfl rfl rfl
theorem tok_109 : TOk Try.prog 109 ⟨.other, 1, 8, true, .nilf⟩ := tok (inf := Try.t109) Try.type109 rfl Try.underlying109 (⟨fun _ => nofun, fun _ _ => nofun⟩) rfl rfl rfl
theorem tok_111 : TOk Try.prog 111 ⟨.other, 1, 8, true, .nilf⟩ := tok (inf := Try.t111) Try.type111 rfl Try.underlying111 (⟨fun _ => nofun, fun _ _ => nofun⟩) rfl rfl rfl
theorem tok_112 : TOk Try.prog 112 ⟨.struct [(0, 23), (1, 23)], 2, 48, true, .agg [.nils, .nils]⟩ := tok (inf := Try.t112) Try.type112 rfl Try.underlying112 (fitS rfl ⟨⟨_, Try.type23, by decide⟩, ⟨_, Try.type23, by decide⟩, trivial⟩) rfl rfl rfl
theorem tok_113 : TOk Try.prog 113 ⟨.struct [(0, 23), (1, 23)], 2, 48, true, .agg [.nils, .nils]⟩ := tok (inf := Try.t113) Try.type113 rfl Try.underlying113 (fitS rfl ⟨⟨_, Try.type23, by decide⟩, ⟨_, Try.type23, by decide⟩, trivial⟩) rfl rfl rfl
theorem tok_114 : TOk Try.prog 114 ⟨.other, 1, 8, true, .nilf⟩ := tok (inf := Try.t114) Try.type114 rfl Try.underlying114 (⟨fun _ => nofun, fun _ _ => nofun⟩) rfl rfl rfl
theorem tok_115 : TOk Try.prog 115 ⟨.other, 1, 8, true, .nilf⟩ := tok (inf := Try.t115) Try.type115 rfl Try.underlying115 (⟨fun _ => nofun, fun _ _ => nofun⟩) rfl rfl rfl
theorem tok_116 : TOk Try.prog 116 ⟨.other, 1, 8, true, .nilf⟩ := tok (inf := Try.t116) Try.type116 rfl Try.underlying116 (⟨fun _ => nofun, fun _ _ => nofun⟩) rfl rfl rfl
theorem tok_117 : TOk Try.prog 117 ⟨.other, 1, 8, true, .nilf⟩ := tok (inf := Try.t117) Try.type117 rfl Try.underlying117 (⟨fun _ => nofun, fun _ _ => nofun⟩) rfl rfl rfl
theorem tok_118 : TOk Try.prog 118 ⟨.int .u64, 1, 8, true, .n .u64 0⟩ := tok (inf := Try.t118) Try.type118 rfl Try.underlying118 (rfl) rfl rfl rfl
theorem tok_119 : TOk Try.prog 119 ⟨.struct [(0, 23), (1, 23)], 2, 48, true, .agg [.nils, .nils]⟩ := tok (inf := Try.t119) Try.type119 rfl Try.underlying119 (fitS rfl ⟨⟨_, Try.type23, by decide⟩, ⟨_, Try.type23, by decide⟩, trivial⟩) rfl rfl rfl
theorem tok_120 : TOk Try.prog 120 ⟨.struct [(0, 23), (1, 23)], 2, 48, true, .agg [.nils, .nils]⟩ := tok (inf := Try.t120) Try.type120 rfl Try.underlying120 (fitS rfl ⟨⟨_, Try.type23, by decide⟩, ⟨_, Try.type23, by decide⟩, trivial⟩) rfl rfl rfl
theorem tok_121 : TOk Try.prog 121 ⟨.other, 1, 8, true, .nilf⟩ := tok (inf := Try.t121) Try.type121 rfl Try.underlying121 (⟨fun _ => nofun, fun _ _ => nofun⟩) rfl rfl rfl
theorem tok_122 : TOk Try.prog 122 ⟨.other, 1, 8, true, .nilf⟩ := tok (inf := Try.t122) Try.type122 rfl Try.underlying122 (⟨fun _ => nofun, fun _ _ => nofun⟩) rfl rfl rfl
theorem tok_123 : TOk Try.prog 123 ⟨.ptr 105, 1, 8, true, .nilp⟩ := tok (inf := Try.t123) Try.type123 rfl Try.underlying123 (rfl) rfl rfl rfl
theorem tok_124 : TOk Try.prog 124 ⟨.other, 1, 8, true, .nilf⟩ := tok (inf := Try.t124) Try.type124 rfl Try.underlying124 (⟨fun _ => nofun, fun _ _ => nofun⟩) rfl rfl rfl
theorem tok_125 : TOk Try.prog 125 ⟨.other, 1, 8, true, .nilf⟩ := tok (inf := Try.t125) Try.type125 rfl Try.underlying125 (⟨fun _ => nofun, fun _ _ => nofun⟩) rfl rfl rfl
theorem tok_126 : TOk Try.prog 126 ⟨.ptr 64, 1, 8, true, .nilp⟩ := tok (inf := Try.t126) Try.type126 rfl Try.underlying126 (rfl) rfl rfl rfl
theorem tok_127 : TOk Try.prog 127 ⟨.struct [(0, 23), (1, 23), (2, 3), (3, 3)], 4, 64, true, .agg [.nils, .nils, .z 0, .z 0]⟩ := tok (inf := Try.t127) Try.type127 rfl Try.underlying127 (fitS rfl ⟨⟨_, Try.type23, by decide⟩, ⟨_, Try.type23, by decide⟩, ⟨_, Try.type3, by decide⟩, ⟨_, Try.type3, by decide⟩, trivial⟩) rfl rfl rfl
theorem tok_128 : TOk Try.prog 128 ⟨.struct [(0, 23), (1, 23), (2, 3), (3, 3)], 4, 64, true, .agg [.nils, .nils, .z 0, .z 0]⟩ := tok (inf := Try.t128) Try.type128 rfl Try.underlying128 (fitS rfl ⟨⟨_, Try.type23, by decide⟩, ⟨_, Try.type23, by decide⟩, ⟨_, Try.type3, by decide⟩, ⟨_, Try.type3, by decide⟩, trivial⟩) rfl rfl rfl
theorem tok_129 : TOk Try.prog 129 ⟨.other, 1, 8, true, .nilf⟩ := tok (inf := Try.t129) Try.type129 rfl Try.underlying129 (⟨fun _ => nofun, fun _ _ => nofun⟩) rfl rfl rfl
theorem tok_130 : TOk Try.prog 130 ⟨.other, 1, 8, true, .nilf⟩ := tok (inf := Try.t130) Try.type130 rfl Try.underlying130 (⟨fun _ => nofun, fun _ _ => nofun⟩) rfl rfl rfl
theorem tok_136 : TOk Try.prog 136 ⟨.other, 1, 8, true, .nilf⟩ := tok (inf := Try.t136) Try.type136 rfl Try.underlying136 (⟨fun _ => nofun, fun _ _ => nofun⟩) rfl rfl rfl
theorem tok_140 : TOk Try.prog 140 ⟨.ptr 5, 1, 8, true, .nilp⟩ := tok (inf := Try.t140) Try.type140 rfl Try.underlying140 (rfl) rfl rfl rfl
theorem table_ok : Table.Ok Try.prog table :=
  .cons tok_1 (.cons tok_2 (.cons tok_3 (.cons tok_4 (.cons tok_5 (.cons tok_9 (.cons tok_12 (.cons tok_20 (.cons tok_22 (.cons tok_23 (.cons tok_24 (.cons tok_25 (.cons tok_26 (.cons tok_27 (.cons tok_28 (.cons tok_29 (.cons tok_31 (.cons tok_32 (.cons tok_33 (.cons tok_34 (.cons tok_35 (.cons tok_36 (.cons tok_37 (.cons tok_38 (.cons tok_39 (.cons tok_40 (.cons tok_41 (.cons tok_42 (.cons tok_43 (.cons tok_44 (.cons tok_45 (.cons tok_46 (.cons tok_47 (.cons tok_48 (.cons tok_49 (.cons tok_50 (.cons tok_51 (.cons tok_52 (.cons tok_53 (.cons tok_54 (.cons tok_55 (.cons tok_56 (.cons tok_57 (.cons tok_58 (.cons tok_60 (.cons tok_61 (.cons tok_62 (.cons tok_63 (.cons tok_64 (.cons tok_66 (.cons tok_67 (.cons tok_68 (.cons tok_69 (.cons tok_70 (.cons tok_71 (.cons tok_72 (.cons tok_73 (.cons tok_74 (.cons tok_75 (.cons tok_76 (.cons tok_77 (.cons tok_78 (.cons tok_79 (.cons tok_80 (.cons tok_81 (.cons tok_82 (.cons tok_83 (.cons tok_84 (.cons tok_85 (.cons tok_86 (.cons tok_87 (.cons tok_88 (.cons tok_90 (.cons tok_91 (.cons tok_92 (.cons tok_94 (.cons tok_95 (.cons tok_97 (.cons tok_98 (.cons tok_99 (.cons tok_100 (.cons tok_101 (.cons tok_102 (.cons tok_103 (.cons tok_104 (.cons tok_105 (.cons tok_106 (.cons tok_107 (.cons tok_109 (.cons tok_111 (.cons tok_112 (.cons tok_113 (.cons tok_114 (.cons tok_115 (.cons tok_116 (.cons tok_117 (.cons tok_118 (.cons tok_119 (.cons tok_120 (.cons tok_121 (.cons tok_122 (.cons tok_123 (.cons tok_124 (.cons tok_125 (.cons tok_126 (.cons tok_127 (.cons tok_128 (.cons tok_129 (.cons tok_130 (.cons tok_136 (.cons tok_140 .nil))))))))))))))))))))))))))))))))))))))))))))))))))))))))))))))))))))))))))))))))))))))))))))))))))))))))))))))
def eqTable : List (TypeId × List IntKind) := [(25, [.u64, .u64]), (26, [.u64, .u64]), (39, [.u64, .u64]), (63, [.u64, .u64, .u64, .u64]), (64, [.u64, .u64, .u64, .u64])]
def E : TypeId → Option (List IntKind) := eqGet eqTable
@[go_sem] theorem E_25 : E 25 = some [.u64, .u64] := rfl
@[go_sem] theorem E_26 : E 26 = some [.u64, .u64] := rfl
@[go_sem] theorem E_39 : E 39 = some [.u64, .u64] := rfl
@[go_sem] theorem E_63 : E 63 = some [.u64, .u64, .u64, .u64] := rfl
@[go_sem] theorem E_64 : E 64 = some [.u64, .u64, .u64, .u64] := rfl
theorem eqs_ok : EqRows Try.prog eqTable :=
  .cons (plainEq_st2 Try.underlying25 Try.underlying24 Try.underlying24 rfl rfl rfl rfl (by kernel_rfl) (by kernel_rfl) (by kernel_rfl) (by kernel_rfl) (by kernel_rfl)) (.cons (plainEq_st2 Try.underlying26 Try.underlying24 Try.underlying24 rfl rfl rfl rfl (by kernel_rfl) (by kernel_rfl) (by kernel_rfl) (by kernel_rfl) (by kernel_rfl)) (.cons (plainEq_st2 Try.underlying39 Try.underlying24 Try.underlying24 rfl rfl rfl rfl (by kernel_rfl) (by kernel_rfl) (by kernel_rfl) (by kernel_rfl) (by kernel_rfl)) (.cons (plainEq_arr4 Try.underlying63 Try.underlying24 (by kernel_rfl) (by kernel_rfl) (by kernel_rfl) (by kernel_rfl)) (.cons (plainEq_arr4 Try.underlying64 Try.underlying24 (by kernel_rfl) (by kernel_rfl) (by kernel_rfl) (by kernel_rfl)) (.nil)))))
end Go.Proofs.Ytaojebdjkpdcdaa.I
