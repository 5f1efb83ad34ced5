/- The seat's types, as rows. Printed by a program. -/
import Derived.Test.YtlcnohmnemmbdaaProg
import Derived.Test.YtlcnohmnemmbdaaM2
import Derived.KernelRfl
namespace Go.Proofs.Ytlcnohmnemmbdaa.I
open Go
set_option maxRecDepth 20000

def table : Table := [
  (1, ⟨.other, 1, 8, true, .nilf⟩),
  (2, ⟨.int .i64, 1, 8, true, .z 0⟩),
  (3, ⟨.int .i64, 1, 8, true, .z 0⟩),
  (4, ⟨.bool, 1, 1, true, .b false⟩),
  (5, ⟨.int .u8, 1, 1, true, .n .u8 0⟩),
  (9, ⟨.string, 1, 16, true, .s ByteArray.empty⟩),
  (12, ⟨.int .u64, 1, 8, true, .n .u64 0⟩),
  (20, ⟨.iface, 1, 16, false, .nili⟩),
  (22, ⟨.int .u64, 1, 8, true, .n .u64 0⟩),
  (23, ⟨.struct [(0, 22), (1, 22)], 2, 16, true, .agg [.n .u64 0, .n .u64 0]⟩),
  (24, ⟨.struct [(0, 22), (1, 22)], 2, 16, true, .agg [.n .u64 0, .n .u64 0]⟩),
  (25, ⟨.struct [(0, 24), (2, 24)], 4, 32, true, .agg [.n .u64 0, .n .u64 0, .n .u64 0, .n .u64 0]⟩),
  (26, ⟨.struct [(0, 24), (2, 24)], 4, 32, true, .agg [.n .u64 0, .n .u64 0, .n .u64 0, .n .u64 0]⟩),
  (27, ⟨.slice 26, 1, 24, true, .nils⟩),
  (28, ⟨.other, 1, 8, true, .nilf⟩),
  (29, ⟨.int .i64, 1, 8, true, .z 0⟩),
  (31, ⟨.other, 1, 8, true, .nilf⟩),
  (32, ⟨.struct [(0, 22), (1, 22)], 2, 16, true, .agg [.n .u64 0, .n .u64 0]⟩),
  (33, ⟨.struct [(0, 32), (2, 32)], 4, 32, true, .agg [.n .u64 0, .n .u64 0, .n .u64 0, .n .u64 0]⟩),
  (34, ⟨.struct [(0, 32), (2, 32)], 4, 32, true, .agg [.n .u64 0, .n .u64 0, .n .u64 0, .n .u64 0]⟩),
  (36, ⟨.other, 1, 8, true, .nilf⟩),
  (37, ⟨.other, 1, 8, true, .nilf⟩),
  (38, ⟨.other, 1, 8, true, .nilf⟩),
  (39, ⟨.other, 1, 8, true, .nilf⟩),
  (40, ⟨.other, 1, 8, true, .nilf⟩),
  (41, ⟨.other, 1, 8, true, .nilf⟩),
  (42, ⟨.other, 1, 8, true, .nilf⟩),
  (43, ⟨.other, 1, 8, true, .nilf⟩),
  (44, ⟨.other, 1, 8, true, .nilf⟩),
  (45, ⟨.other, 1, 8, true, .nilf⟩),
  (46, ⟨.other, 1, 8, true, .nilf⟩),
  (47, ⟨.other, 1, 8, true, .nilf⟩),
  (48, ⟨.other, 1, 8, true, .nilf⟩),
  (49, ⟨.other, 1, 8, true, .nilf⟩),
  (50, ⟨.slice 34, 1, 24, true, .nils⟩),
  (51, ⟨.other, 1, 8, true, .nilf⟩),
  (52, ⟨.other, 1, 8, true, .nilf⟩),
  (53, ⟨.other, 1, 8, true, .nilf⟩),
  (54, ⟨.other, 1, 8, true, .nilf⟩),
  (55, ⟨.other, 1, 8, true, .nilf⟩),
  (56, ⟨.other, 1, 8, true, .nilf⟩),
  (57, ⟨.other, 1, 8, true, .nilf⟩),
  (59, ⟨.other, 1, 8, true, .nilf⟩),
  (60, ⟨.other, 1, 8, true, .nilf⟩),
  (61, ⟨.other, 1, 8, true, .nilf⟩),
  (62, ⟨.other, 1, 8, true, .nilf⟩),
  (63, ⟨.other, 1, 8, true, .nilf⟩),
  (64, ⟨.other, 1, 8, true, .nilf⟩),
  (65, ⟨.other, 1, 8, true, .nilf⟩),
  (66, ⟨.other, 1, 8, true, .nilf⟩),
  (67, ⟨.other, 1, 8, true, .nilf⟩),
  (69, ⟨.other, 1, 8, true, .nilf⟩),
  (70, ⟨.other, 1, 8, true, .nilf⟩),
  (71, ⟨.other, 1, 8, true, .nilf⟩),
  (73, ⟨.other, 1, 8, true, .nilf⟩),
  (74, ⟨.other, 1, 8, true, .nilf⟩),
  (75, ⟨.map 26 3, 1, 8, true, .nilm⟩),
  (76, ⟨.other, 1, 8, true, .nilf⟩),
  (78, ⟨.other, 1, 8, true, .nilf⟩),
  (79, ⟨.other, 1, 8, true, .nilf⟩),
  (80, ⟨.other, 1, 8, true, .nilf⟩),
  (81, ⟨.other, 1, 8, true, .nilf⟩),
  (82, ⟨.slice 3, 1, 24, true, .nils⟩),
  (83, ⟨.other, 1, 8, true, .nilf⟩),
  (84, ⟨.array 4 22, 4, 32, true, .agg [.n .u64 0, .n .u64 0, .n .u64 0, .n .u64 0]⟩),
  (85, ⟨.other, 1, 8, true, .nilf⟩),
  (86, ⟨.other, 1, 8, true, .nilf⟩),
  (87, ⟨.other, 1, 8, true, .nilf⟩),
  (88, ⟨.other, 1, 8, true, .nilf⟩),
  (89, ⟨.other, 1, 8, true, .nilf⟩),
  (90, ⟨.other, 1, 8, true, .nilf⟩),
  (91, ⟨.other, 1, 8, true, .nilf⟩),
  (92, ⟨.int .u64, 1, 8, true, .n .u64 0⟩),
  (93, ⟨.other, 1, 8, true, .nilf⟩),
  (94, ⟨.other, 1, 8, true, .nilf⟩),
  (95, ⟨.other, 1, 8, true, .nilf⟩),
  (96, ⟨.other, 1, 8, true, .nilf⟩),
  (97, ⟨.other, 1, 8, true, .nilf⟩),
  (98, ⟨.other, 1, 8, true, .nilf⟩),
  (104, ⟨.other, 1, 8, true, .nilf⟩),
  (105, ⟨.int .u32, 1, 4, true, .n .u32 0⟩),
  (109, ⟨.ptr 5, 1, 8, true, .nilp⟩)]

def T : TypeId → Option TI := table.get
@[go_sem] theorem T_1 : T 1 = some ⟨.other, 1, 8, true, .nilf⟩ := rfl   -- func()
@[go_sem] theorem T_2 : T 2 = some ⟨.int .i64, 1, 8, true, .z 0⟩ := rfl   -- int64
@[go_sem] theorem T_3 : T 3 = some ⟨.int .i64, 1, 8, true, .z 0⟩ := rfl   -- int
@[go_sem] theorem T_4 : T 4 = some ⟨.bool, 1, 1, true, .b false⟩ := rfl   -- bool
@[go_sem] theorem T_5 : T 5 = some ⟨.int .u8, 1, 1, true, .n .u8 0⟩ := rfl   -- uint8
@[go_sem] theorem T_9 : T 9 = some ⟨.string, 1, 16, true, .s ByteArray.empty⟩ := rfl   -- string
@[go_sem] theorem T_12 : T 12 = some ⟨.int .u64, 1, 8, true, .n .u64 0⟩ := rfl   -- uintptr
@[go_sem] theorem T_20 : T 20 = some ⟨.iface, 1, 16, false, .nili⟩ := rfl   -- interface {}
@[go_sem] theorem T_22 : T 22 = some ⟨.int .u64, 1, 8, true, .n .u64 0⟩ := rfl   -- uint64
@[go_sem] theorem T_23 : T 23 = some ⟨.struct [(0, 22), (1, 22)], 2, 16, true, .agg [.n .u64 0, .n .u64 0]⟩ := rfl   -- struct { Hi uint64; Lo uint64 }
@[go_sem] theorem T_24 : T 24 = some ⟨.struct [(0, 22), (1, 22)], 2, 16, true, .agg [.n .u64 0, .n .u64 0]⟩ := rfl   -- wide.U128
@[go_sem] theorem T_25 : T 25 = some ⟨.struct [(0, 24), (2, 24)], 4, 32, true, .agg [.n .u64 0, .n .u64 0, .n .u64 0, .n .u64 0]⟩ := rfl   -- struct { From wide.U128; To wide.U128 }
@[go_sem] theorem T_26 : T 26 = some ⟨.struct [(0, 24), (2, 24)], 4, 32, true, .agg [.n .u64 0, .n .u64 0, .n .u64 0, .n .u64 0]⟩ := rfl   -- span.Span
@[go_sem] theorem T_27 : T 27 = some ⟨.slice 26, 1, 24, true, .nils⟩ := rfl   -- []span.Span
@[go_sem] theorem T_28 : T 28 = some ⟨.other, 1, 8, true, .nilf⟩ := rfl   -- func() bool
@[go_sem] theorem T_29 : T 29 = some ⟨.int .i64, 1, 8, true, .z 0⟩ := rfl   -- api.Errno
@[go_sem] theorem T_31 : T 31 = some ⟨.other, 1, 8, true, .nilf⟩ := rfl   -- func(span.Span) (span.Span, span.Span, api.Errno)
@[go_sem] theorem T_32 : T 32 = some ⟨.struct [(0, 22), (1, 22)], 2, 16, true, .agg [.n .u64 0, .n .u64 0]⟩ := rfl   -- knuckleboneref01.U
@[go_sem] theorem T_33 : T 33 = some ⟨.struct [(0, 32), (2, 32)], 4, 32, true, .agg [.n .u64 0, .n .u64 0, .n .u64 0, .n .u64 0]⟩ := rfl   -- struct { From knuckleboneref01.U; To knuckleboneref01.U }
@[go_sem] theorem T_34 : T 34 = some ⟨.struct [(0, 32), (2, 32)], 4, 32, true, .agg [.n .u64 0, .n .u64 0, .n .u64 0, .n .u64 0]⟩ := rfl   -- knuckleboneref15.Span
@[go_sem] theorem T_36 : T 36 = some ⟨.other, 1, 8, true, .nilf⟩ := rfl   -- func(knuckleboneref15.Span) (knuckleboneref15.Span, knuckleboneref15.Span, api.Errno)
@[go_sem] theorem T_37 : T 37 = some ⟨.other, 1, 8, true, .nilf⟩ := rfl   -- func(span.Span) knuckleboneref15.Span
@[go_sem] theorem T_38 : T 38 = some ⟨.other, 1, 8, true, .nilf⟩ := rfl   -- func(span.Span, wide.U128) (span.Span, span.Span, api.Errno)
@[go_sem] theorem T_39 : T 39 = some ⟨.other, 1, 8, true, .nilf⟩ := rfl   -- func(knuckleboneref15.Span, knuckleboneref01.U) (knuckleboneref15.Span, knuckleboneref15.Span, api.Errno)
@[go_sem] theorem T_40 : T 40 = some ⟨.other, 1, 8, true, .nilf⟩ := rfl   -- func(span.Span) bool
@[go_sem] theorem T_41 : T 41 = some ⟨.other, 1, 8, true, .nilf⟩ := rfl   -- func(knuckleboneref15.Span) bool
@[go_sem] theorem T_42 : T 42 = some ⟨.other, 1, 8, true, .nilf⟩ := rfl   -- func(span.Span) wide.U128
@[go_sem] theorem T_43 : T 43 = some ⟨.other, 1, 8, true, .nilf⟩ := rfl   -- func(knuckleboneref15.Span) knuckleboneref01.U
@[go_sem] theorem T_44 : T 44 = some ⟨.other, 1, 8, true, .nilf⟩ := rfl   -- func(span.Span, wide.U128) bool
@[go_sem] theorem T_45 : T 45 = some ⟨.other, 1, 8, true, .nilf⟩ := rfl   -- func(knuckleboneref15.Span, knuckleboneref01.U) bool
@[go_sem] theorem T_46 : T 46 = some ⟨.other, 1, 8, true, .nilf⟩ := rfl   -- func(span.Span, span.Span) bool
@[go_sem] theorem T_47 : T 47 = some ⟨.other, 1, 8, true, .nilf⟩ := rfl   -- func(knuckleboneref15.Span, knuckleboneref15.Span) bool
@[go_sem] theorem T_48 : T 48 = some ⟨.other, 1, 8, true, .nilf⟩ := rfl   -- func([]span.Span) bool
@[go_sem] theorem T_49 : T 49 = some ⟨.other, 1, 8, true, .nilf⟩ := rfl   -- func([]knuckleboneref15.Span) bool
@[go_sem] theorem T_50 : T 50 = some ⟨.slice 34, 1, 24, true, .nils⟩ := rfl   -- []knuckleboneref15.Span
@[go_sem] theorem T_51 : T 51 = some ⟨.other, 1, 8, true, .nilf⟩ := rfl   -- func([]span.Span) []knuckleboneref15.Span
@[go_sem] theorem T_52 : T 52 = some ⟨.other, 1, 8, true, .nilf⟩ := rfl   -- func([]knuckleboneref15.Span, []knuckleboneref15.Span) bool
@[go_sem] theorem T_53 : T 53 = some ⟨.other, 1, 8, true, .nilf⟩ := rfl   -- func([]span.Span) []span.Span
@[go_sem] theorem T_54 : T 54 = some ⟨.other, 1, 8, true, .nilf⟩ := rfl   -- func([]knuckleboneref15.Span) []knuckleboneref15.Span
@[go_sem] theorem T_55 : T 55 = some ⟨.other, 1, 8, true, .nilf⟩ := rfl   -- func([]span.Span) wide.U128
@[go_sem] theorem T_56 : T 56 = some ⟨.other, 1, 8, true, .nilf⟩ := rfl   -- func([]knuckleboneref15.Span) knuckleboneref01.U
@[go_sem] theorem T_57 : T 57 = some ⟨.other, 1, 8, true, .nilf⟩ := rfl   -- func(span.Span, span.Span, wide.U128, []span.Span) bool
@[go_sem] theorem T_59 : T 59 = some ⟨.other, 1, 8, true, .nilf⟩ := rfl   -- func(wide.U128, wide.U128) (wide.U128, bool)
@[go_sem] theorem T_60 : T 60 = some ⟨.other, 1, 8, true, .nilf⟩ := rfl   -- func(wide.U128, wide.U128) int
@[go_sem] theorem T_61 : T 61 = some ⟨.other, 1, 8, true, .nilf⟩ := rfl   -- func(uint64) wide.U128
@[go_sem] theorem T_62 : T 62 = some ⟨.other, 1, 8, true, .nilf⟩ := rfl   -- func(span.Span, wide.U128, wide.U128) bool
@[go_sem] theorem T_63 : T 63 = some ⟨.other, 1, 8, true, .nilf⟩ := rfl   -- func([]span.Span, wide.U128) bool
@[go_sem] theorem T_64 : T 64 = some ⟨.other, 1, 8, true, .nilf⟩ := rfl   -- func(span.Span, span.Span, wide.U128) bool
@[go_sem] theorem T_65 : T 65 = some ⟨.other, 1, 8, true, .nilf⟩ := rfl   -- func(uint64, uint64) span.Span
@[go_sem] theorem T_66 : T 66 = some ⟨.other, 1, 8, true, .nilf⟩ := rfl   -- func(wide.U128) int
@[go_sem] theorem T_67 : T 67 = some ⟨.other, 1, 8, true, .nilf⟩ := rfl   -- func(wide.U128, int) wide.U128
@[go_sem] theorem T_69 : T 69 = some ⟨.other, 1, 8, true, .nilf⟩ := rfl   -- func(span.Span, wide.U128) (span.Span, span.Span)
@[go_sem] theorem T_70 : T 70 = some ⟨.other, 1, 8, true, .nilf⟩ := rfl   -- func(knuckleboneref01.U, knuckleboneref01.U) int
@[go_sem] theorem T_71 : T 71 = some ⟨.other, 1, 8, true, .nilf⟩ := rfl   -- func(knuckleboneref01.U, int) knuckleboneref01.U
@[go_sem] theorem T_73 : T 73 = some ⟨.other, 1, 8, true, .nilf⟩ := rfl   -- func(knuckleboneref01.U, knuckleboneref01.U) (knuckleboneref01.U, bool)
@[go_sem] theorem T_74 : T 74 = some ⟨.other, 1, 8, true, .nilf⟩ := rfl   -- func([]span.Span, func(span.Span) bool) bool
@[go_sem] theorem T_75 : T 75 = some ⟨.map 26 3, 1, 8, true, .nilm⟩ := rfl   -- map[span.Span]int
@[go_sem] theorem T_76 : T 76 = some ⟨.other, 1, 8, true, .nilf⟩ := rfl   -- func([]knuckleboneref15.Span, knuckleboneref15.Span) []knuckleboneref15.Span
@[go_sem] theorem T_78 : T 78 = some ⟨.other, 1, 8, true, .nilf⟩ := rfl   -- func(uint64, uint64, uint64) (uint64, uint64)
@[go_sem] theorem T_79 : T 79 = some ⟨.other, 1, 8, true, .nilf⟩ := rfl   -- func(uint64, uint64) int
@[go_sem] theorem T_80 : T 80 = some ⟨.other, 1, 8, true, .nilf⟩ := rfl   -- func(uint64) int
@[go_sem] theorem T_81 : T 81 = some ⟨.other, 1, 8, true, .nilf⟩ := rfl   -- func([]int) knuckleboneref01.U
@[go_sem] theorem T_82 : T 82 = some ⟨.slice 3, 1, 24, true, .nils⟩ := rfl   -- []int
@[go_sem] theorem T_83 : T 83 = some ⟨.other, 1, 8, true, .nilf⟩ := rfl   -- func(knuckleboneref01.U) []int
@[go_sem] theorem T_84 : T 84 = some ⟨.array 4 22, 4, 32, true, .agg [.n .u64 0, .n .u64 0, .n .u64 0, .n .u64 0]⟩ := rfl   -- [4]uint64
@[go_sem] theorem T_85 : T 85 = some ⟨.other, 1, 8, true, .nilf⟩ := rfl   -- func(knuckleboneref01.U) [4]uint64
@[go_sem] theorem T_86 : T 86 = some ⟨.other, 1, 8, true, .nilf⟩ := rfl   -- func([4]uint64) knuckleboneref01.U
@[go_sem] theorem T_87 : T 87 = some ⟨.other, 1, 8, true, .nilf⟩ := rfl   -- func([]span.Span, func(span.Span) bool) int
@[go_sem] theorem T_88 : T 88 = some ⟨.other, 1, 8, true, .nilf⟩ := rfl   -- func([]span.Span, func(span.Span) bool) []span.Span
@[go_sem] theorem T_89 : T 89 = some ⟨.other, 1, 8, true, .nilf⟩ := rfl   -- func([]span.Span, func(span.Span, span.Span) int)
@[go_sem] theorem T_90 : T 90 = some ⟨.other, 1, 8, true, .nilf⟩ := rfl   -- func(span.Span, span.Span) int
@[go_sem] theorem T_91 : T 91 = some ⟨.other, 1, 8, true, .nilf⟩ := rfl   -- func(uint64) bool
@[go_sem] theorem T_92 : T 92 = some ⟨.int .u64, 1, 8, true, .n .u64 0⟩ := rfl   -- uint
@[go_sem] theorem T_93 : T 93 = some ⟨.other, 1, 8, true, .nilf⟩ := rfl   -- func([]int, int) uint64
@[go_sem] theorem T_94 : T 94 = some ⟨.other, 1, 8, true, .nilf⟩ := rfl   -- func(uint64) []int
@[go_sem] theorem T_95 : T 95 = some ⟨.other, 1, 8, true, .nilf⟩ := rfl   -- func([]span.Span, int, func(span.Span, span.Span) int)
@[go_sem] theorem T_96 : T 96 = some ⟨.other, 1, 8, true, .nilf⟩ := rfl   -- func([]span.Span, int, int, func(span.Span, span.Span) int)
@[go_sem] theorem T_97 : T 97 = some ⟨.other, 1, 8, true, .nilf⟩ := rfl   -- func([]span.Span, int, int, int, func(span.Span, span.Span) int)
@[go_sem] theorem T_98 : T 98 = some ⟨.other, 1, 8, true, .nilf⟩ := rfl   -- func() string
@[go_sem] theorem T_104 : T 104 = some ⟨.other, 1, 8, true, .nilf⟩ := rfl   -- func() int
@[go_sem] theorem T_105 : T 105 = some ⟨.int .u32, 1, 4, true, .n .u32 0⟩ := rfl   -- uint32
@[go_sem] theorem T_109 : T 109 = some ⟨.ptr 5, 1, 8, true, .nilp⟩ := rfl   -- *uint8
theorem tok_1 : TOk Try.prog 1 ⟨.other, 1, 8, true, .nilf⟩ := tok (inf := Try.t1) Try.type1 rfl Try.underlying1 (⟨fun _ => nofun, fun _ _ => nofun⟩) rfl rfl rfl
theorem tok_2 : TOk Try.prog 2 ⟨.int .i64, 1, 8, true, .z 0⟩ := tok (inf := Try.t2) Try.type2 rfl Try.underlying2 (rfl) rfl rfl rfl
theorem tok_3 : TOk Try.prog 3 ⟨.int .i64, 1, 8, true, .z 0⟩ := tok (inf := Try.t3) Try.type3 rfl Try.underlying3 (rfl) rfl rfl rfl
theorem tok_4 : TOk Try.prog 4 ⟨.bool, 1, 1, true, .b false⟩ := tok (inf := Try.t4) Try.type4 rfl Try.underlying4 (rfl) rfl rfl rfl
theorem tok_5 : TOk Try.prog 5 ⟨.int .u8, 1, 1, true, .n .u8 0⟩ := tok (inf := Try.t5) Try.type5 rfl Try.underlying5 (rfl) rfl rfl rfl
theorem tok_9 : TOk Try.prog 9 ⟨.string, 1, 16, true, .s ByteArray.empty⟩ := tok (inf := Try.t9) Try.type9 rfl Try.underlying9 (rfl) rfl rfl rfl
theorem tok_12 : TOk Try.prog 12 ⟨.int .u64, 1, 8, true, .n .u64 0⟩ := tok (inf := Try.t12) Try.type12 rfl Try.underlying12 (rfl) rfl rfl rfl
theorem tok_20 : TOk Try.prog 20 ⟨.iface, 1, 16, false, .nili⟩ := tok (inf := Try.t20) Try.type20 rfl Try.underlying20 (⟨_, rfl⟩) rfl rfl rfl
theorem tok_22 : TOk Try.prog 22 ⟨.int .u64, 1, 8, true, .n .u64 0⟩ := tok (inf := Try.t22) Try.type22 rfl Try.underlying22 (rfl) rfl rfl rfl
theorem tok_23 : TOk Try.prog 23 ⟨.struct [(0, 22), (1, 22)], 2, 16, true, .agg [.n .u64 0, .n .u64 0]⟩ := tok (inf := Try.t23) Try.type23 rfl Try.underlying23 (fitS rfl ⟨⟨_, Try.type22, by decide⟩, ⟨_, Try.type22, by decide⟩, trivial⟩) rfl rfl rfl
theorem tok_24 : TOk Try.prog 24 ⟨.struct [(0, 22), (1, 22)], 2, 16, true, .agg [.n .u64 0, .n .u64 0]⟩ := tok (inf := Try.t24) Try.type24 rfl Try.underlying24 (fitS rfl ⟨⟨_, Try.type22, by decide⟩, ⟨_, Try.type22, by decide⟩, trivial⟩) rfl rfl rfl
theorem tok_25 : TOk Try.prog 25 ⟨.struct [(0, 24), (2, 24)], 4, 32, true, .agg [.n .u64 0, .n .u64 0, .n .u64 0, .n .u64 0]⟩ := tok (inf := Try.t25) Try.type25 rfl Try.underlying25 (fitS rfl ⟨⟨_, Try.type24, by decide⟩, ⟨_, Try.type24, by decide⟩, trivial⟩) rfl rfl rfl
theorem tok_26 : TOk Try.prog 26 ⟨.struct [(0, 24), (2, 24)], 4, 32, true, .agg [.n .u64 0, .n .u64 0, .n .u64 0, .n .u64 0]⟩ := tok (inf := Try.t26) Try.type26 rfl Try.underlying26 (fitS rfl ⟨⟨_, Try.type24, by decide⟩, ⟨_, Try.type24, by decide⟩, trivial⟩) rfl rfl rfl
theorem tok_27 : TOk Try.prog 27 ⟨.slice 26, 1, 24, true, .nils⟩ := tok (inf := Try.t27) Try.type27 rfl Try.underlying27 (rfl) rfl rfl rfl
theorem tok_28 : TOk Try.prog 28 ⟨.other, 1, 8, true, .nilf⟩ := tok (inf := Try.t28) Try.type28 rfl Try.underlying28 (⟨fun _ => nofun, fun _ _ => nofun⟩) rfl rfl rfl
theorem tok_29 : TOk Try.prog 29 ⟨.int .i64, 1, 8, true, .z 0⟩ := tok (inf := Try.t29) Try.type29 rfl Try.underlying29 (rfl) rfl rfl rfl
theorem tok_31 : TOk Try.prog 31 ⟨.other, 1, 8, true, .nilf⟩ := tok (inf := Try.t31) Try.type31 rfl Try.underlying31 (⟨fun _ => nofun, fun _ _ => nofun⟩) rfl rfl rfl
theorem tok_32 : TOk Try.prog 32 ⟨.struct [(0, 22), (1, 22)], 2, 16, true, .agg [.n .u64 0, .n .u64 0]⟩ := tok (inf := Try.t32) Try.type32 rfl Try.underlying32 (fitS rfl ⟨⟨_, Try.type22, by decide⟩, ⟨_, Try.type22, by decide⟩, trivial⟩) rfl rfl rfl
theorem tok_33 : TOk Try.prog 33 ⟨.struct [(0, 32), (2, 32)], 4, 32, true, .agg [.n .u64 0, .n .u64 0, .n .u64 0, .n .u64 0]⟩ := tok (inf := Try.t33) Try.type33 rfl Try.underlying33 (fitS rfl ⟨⟨_, Try.type32, by decide⟩, ⟨_, Try.type32, by decide⟩, trivial⟩) rfl rfl rfl
theorem tok_34 : TOk Try.prog 34 ⟨.struct [(0, 32), (2, 32)], 4, 32, true, .agg [.n .u64 0, .n .u64 0, .n .u64 0, .n .u64 0]⟩ := tok (inf := Try.t34) Try.type34 rfl Try.underlying34 (fitS rfl ⟨⟨_, Try.type32, by decide⟩, ⟨_, Try.type32, by decide⟩, trivial⟩) rfl rfl rfl
theorem tok_36 : TOk Try.prog 36 ⟨.other, 1, 8, true, .nilf⟩ := tok (inf := Try.t36) Try.type36 rfl Try.underlying36 (⟨fun _ => nofun, fun _ _ => nofun⟩) rfl rfl rfl
theorem tok_37 : TOk Try.prog 37 ⟨.other, 1, 8, true, .nilf⟩ := tok (inf := Try.t37) Try.type37 rfl Try.underlying37 (⟨fun _ => nofun, fun _ _ => nofun⟩) rfl rfl rfl
theorem tok_38 : TOk Try.prog 38 ⟨.other, 1, 8, true, .nilf⟩ := tok (inf := Try.t38) Try.type38 rfl Try.underlying38 (⟨fun _ => nofun, fun _ _ => nofun⟩) rfl rfl rfl
theorem tok_39 : TOk Try.prog 39 ⟨.other, 1, 8, true, .nilf⟩ := tok (inf := Try.t39) Try.type39 rfl Try.underlying39 (⟨fun _ => nofun, fun _ _ => nofun⟩) rfl rfl rfl
theorem tok_40 : TOk Try.prog 40 ⟨.other, 1, 8, true, .nilf⟩ := tok (inf := Try.t40) Try.type40 rfl Try.underlying40 (⟨fun _ => nofun, fun _ _ => nofun⟩) rfl rfl rfl
theorem tok_41 : TOk Try.prog 41 ⟨.other, 1, 8, true, .nilf⟩ := tok (inf := Try.t41) Try.type41 rfl Try.underlying41 (⟨fun _ => nofun, fun _ _ => nofun⟩) rfl rfl rfl
theorem tok_42 : TOk Try.prog 42 ⟨.other, 1, 8, true, .nilf⟩ := tok (inf := Try.t42) Try.type42 rfl Try.underlying42 (⟨fun _ => nofun, fun _ _ => nofun⟩) rfl rfl rfl
theorem tok_43 : TOk Try.prog 43 ⟨.other, 1, 8, true, .nilf⟩ := tok (inf := Try.t43) Try.type43 rfl Try.underlying43 (⟨fun _ => nofun, fun _ _ => nofun⟩) rfl rfl rfl
theorem tok_44 : TOk Try.prog 44 ⟨.other, 1, 8, true, .nilf⟩ := tok (inf := Try.t44) Try.type44 rfl Try.underlying44 (⟨fun _ => nofun, fun _ _ => nofun⟩) rfl rfl rfl
theorem tok_45 : TOk Try.prog 45 ⟨.other, 1, 8, true, .nilf⟩ := tok (inf := Try.t45) Try.type45 rfl Try.underlying45 (⟨fun _ => nofun, fun _ _ => nofun⟩) rfl rfl rfl
theorem tok_46 : TOk Try.prog 46 ⟨.other, 1, 8, true, .nilf⟩ := tok (inf := Try.t46) Try.type46 rfl Try.underlying46 (⟨fun _ => nofun, fun _ _ => nofun⟩) rfl rfl rfl
theorem tok_47 : TOk Try.prog 47 ⟨.other, 1, 8, true, .nilf⟩ := tok (inf := Try.t47) Try.type47 rfl Try.underlying47 (⟨fun _ => nofun, fun _ _ => nofun⟩) rfl rfl rfl
theorem tok_48 : TOk Try.prog 48 ⟨.other, 1, 8, true, .nilf⟩ := tok (inf := Try.t48) Try.type48 rfl Try.underlying48 (⟨fun _ => nofun, fun _ _ => nofun⟩) rfl rfl rfl
theorem tok_49 : TOk Try.prog 49 ⟨.other, 1, 8, true, .nilf⟩ := tok (inf := Try.t49) Try.type49 rfl Try.underlying49 (⟨fun _ => nofun, fun _ _ => nofun⟩) rfl rfl rfl
theorem tok_50 : TOk Try.prog 50 ⟨.slice 34, 1, 24, true, .nils⟩ := tok (inf := Try.t50) Try.type50 rfl Try.underlying50 (rfl) rfl rfl rfl
theorem tok_51 : TOk Try.prog 51 ⟨.other, 1, 8, true, .nilf⟩ := tok (inf := Try.t51) Try.type51 rfl Try.underlying51 (⟨fun _ => nofun, fun _ _ => nofun⟩) rfl rfl rfl
theorem tok_52 : TOk Try.prog 52 ⟨.other, 1, 8, true, .nilf⟩ := tok (inf := Try.t52) Try.type52 rfl Try.underlying52 (⟨fun _ => nofun, fun _ _ => nofun⟩) rfl rfl rfl
theorem tok_53 : TOk Try.prog 53 ⟨.other, 1, 8, true, .nilf⟩ := tok (inf := Try.t53) Try.type53 rfl Try.underlying53 (⟨fun _ => nofun, fun _ _ => nofun⟩) rfl rfl rfl
theorem tok_54 : TOk Try.prog 54 ⟨.other, 1, 8, true, .nilf⟩ := tok (inf := Try.t54) Try.type54 rfl Try.underlying54 (⟨fun _ => nofun, fun _ _ => nofun⟩) rfl rfl rfl
theorem tok_55 : TOk Try.prog 55 ⟨.other, 1, 8, true, .nilf⟩ := tok (inf := Try.t55) Try.type55 rfl Try.underlying55 (⟨fun _ => nofun, fun _ _ => nofun⟩) rfl rfl rfl
theorem tok_56 : TOk Try.prog 56 ⟨.other, 1, 8, true, .nilf⟩ := tok (inf := Try.t56) Try.type56 rfl Try.underlying56 (⟨fun _ => nofun, fun _ _ => nofun⟩) rfl rfl rfl
theorem tok_57 : TOk Try.prog 57 ⟨.other, 1, 8, true, .nilf⟩ := tok (inf := Try.t57) Try.type57 rfl Try.underlying57 (⟨fun _ => nofun, fun _ _ => nofun⟩) rfl rfl rfl
theorem tok_59 : TOk Try.prog 59 ⟨.other, 1, 8, true, .nilf⟩ := tok (inf := Try.t59) Try.type59 rfl Try.underlying59 (⟨fun _ => nofun, fun _ _ => nofun⟩) rfl rfl rfl
theorem tok_60 : TOk Try.prog 60 ⟨.other, 1, 8, true, .nilf⟩ := tok (inf := Try.t60) Try.type60 rfl Try.underlying60 (⟨fun _ => nofun, fun _ _ => nofun⟩) rfl rfl rfl
theorem tok_61 : TOk Try.prog 61 ⟨.other, 1, 8, true, .nilf⟩ := tok (inf := Try.t61) Try.type61 rfl Try.underlying61 (⟨fun _ => nofun, fun _ _ => nofun⟩) rfl rfl rfl
theorem tok_62 : TOk Try.prog 62 ⟨.other, 1, 8, true, .nilf⟩ := tok (inf := Try.t62) Try.type62 rfl Try.underlying62 (⟨fun _ => nofun, fun _ _ => nofun⟩) rfl rfl rfl
theorem tok_63 : TOk Try.prog 63 ⟨.other, 1, 8, true, .nilf⟩ := tok (inf := Try.t63) Try.type63 rfl Try.underlying63 (⟨fun _ => nofun, fun _ _ => nofun⟩) rfl rfl rfl
theorem tok_64 : TOk Try.prog 64 ⟨.other, 1, 8, true, .nilf⟩ := tok (inf := Try.t64) Try.type64 rfl Try.underlying64 (⟨fun _ => nofun, fun _ _ => nofun⟩) rfl rfl rfl
theorem tok_65 : TOk Try.prog 65 ⟨.other, 1, 8, true, .nilf⟩ := tok (inf := Try.t65) Try.type65 rfl Try.underlying65 (⟨fun _ => nofun, fun _ _ => nofun⟩) rfl rfl rfl
theorem tok_66 : TOk Try.prog 66 ⟨.other, 1, 8, true, .nilf⟩ := tok (inf := Try.t66) Try.type66 rfl Try.underlying66 (⟨fun _ => nofun, fun _ _ => nofun⟩) rfl rfl rfl
theorem tok_67 : TOk Try.prog 67 ⟨.other, 1, 8, true, .nilf⟩ := tok (inf := Try.t67) Try.type67 rfl Try.underlying67 (⟨fun _ => nofun, fun _ _ => nofun⟩) rfl rfl rfl
theorem tok_69 : TOk Try.prog 69 ⟨.other, 1, 8, true, .nilf⟩ := tok (inf := Try.t69) Try.type69 rfl Try.underlying69 (⟨fun _ => nofun, fun _ _ => nofun⟩) rfl rfl rfl
theorem tok_70 : TOk Try.prog 70 ⟨.other, 1, 8, true, .nilf⟩ := tok (inf := Try.t70) Try.type70 rfl Try.underlying70 (⟨fun _ => nofun, fun _ _ => nofun⟩) rfl rfl rfl
theorem tok_71 : TOk Try.prog 71 ⟨.other, 1, 8, true, .nilf⟩ := tok (inf := Try.t71) Try.type71 rfl Try.underlying71 (⟨fun _ => nofun, fun _ _ => nofun⟩) rfl rfl rfl
theorem tok_73 : TOk Try.prog 73 ⟨.other, 1, 8, true, .nilf⟩ := tok (inf := Try.t73) Try.type73 rfl Try.underlying73 (⟨fun _ => nofun, fun _ _ => nofun⟩) rfl rfl rfl
theorem tok_74 : TOk Try.prog 74 ⟨.other, 1, 8, true, .nilf⟩ := tok (inf := Try.t74) Try.type74 rfl Try.underlying74 (⟨fun _ => nofun, fun _ _ => nofun⟩) rfl rfl rfl
theorem tok_75 : TOk Try.prog 75 ⟨.map 26 3, 1, 8, true, .nilm⟩ := tok (inf := Try.t75) Try.type75 rfl Try.underlying75 (rfl) rfl rfl rfl
theorem tok_76 : TOk Try.prog 76 ⟨.other, 1, 8, true, .nilf⟩ := tok (inf := Try.t76) Try.type76 rfl Try.underlying76 (⟨fun _ => nofun, fun _ _ => nofun⟩) rfl rfl rfl
theorem tok_78 : TOk Try.prog 78 ⟨.other, 1, 8, true, .nilf⟩ := tok (inf := Try.t78) Try.type78 rfl Try.underlying78 (⟨fun _ => nofun, fun _ _ => nofun⟩) rfl rfl rfl
theorem tok_79 : TOk Try.prog 79 ⟨.other, 1, 8, true, .nilf⟩ := tok (inf := Try.t79) Try.type79 rfl Try.underlying79 (⟨fun _ => nofun, fun _ _ => nofun⟩) rfl rfl rfl
theorem tok_80 : TOk Try.prog 80 ⟨.other, 1, 8, true, .nilf⟩ := tok (inf := Try.t80) Try.type80 rfl Try.underlying80 (⟨fun _ => nofun, fun _ _ => nofun⟩) rfl rfl rfl
theorem tok_81 : TOk Try.prog 81 ⟨.other, 1, 8, true, .nilf⟩ := tok (inf := Try.t81) Try.type81 rfl Try.underlying81 (⟨fun _ => nofun, fun _ _ => nofun⟩) rfl rfl rfl
theorem tok_82 : TOk Try.prog 82 ⟨.slice 3, 1, 24, true, .nils⟩ := tok (inf := Try.t82) Try.type82 rfl Try.underlying82 (rfl) rfl rfl rfl
theorem tok_83 : TOk Try.prog 83 ⟨.other, 1, 8, true, .nilf⟩ := tok (inf := Try.t83) Try.type83 rfl Try.underlying83 (⟨fun _ => nofun, fun _ _ => nofun⟩) rfl rfl rfl
theorem tok_84 : TOk Try.prog 84 ⟨.array 4 22, 4, 32, true, .agg [.n .u64 0, .n .u64 0, .n .u64 0, .n .u64 0]⟩ := tok (inf := Try.t84) Try.type84 rfl Try.underlying84 (rfl) rfl rfl rfl
theorem tok_85 : TOk Try.prog 85 ⟨.other, 1, 8, true, .nilf⟩ := tok (inf := Try.t85) Try.type85 rfl Try.underlying85 (⟨fun _ => nofun, fun _ _ => nofun⟩) rfl rfl rfl
theorem tok_86 : TOk Try.prog 86 ⟨.other, 1, 8, true, .nilf⟩ := tok (inf := Try.t86) Try.type86 rfl Try.underlying86 (⟨fun _ => nofun, fun _ _ => nofun⟩) rfl rfl rfl
theorem tok_87 : TOk Try.prog 87 ⟨.other, 1, 8, true, .nilf⟩ := tok (inf := Try.t87) Try.type87 rfl Try.underlying87 (⟨fun _ => nofun, fun _ _ => nofun⟩) rfl rfl rfl
theorem tok_88 : TOk Try.prog 88 ⟨.other, 1, 8, true, .nilf⟩ := tok (inf := Try.t88) Try.type88 rfl Try.underlying88 (⟨fun _ => nofun, fun _ _ => nofun⟩) rfl rfl rfl
theorem tok_89 : TOk Try.prog 89 ⟨.other, 1, 8, true, .nilf⟩ := tok (inf := Try.t89) Try.type89 rfl Try.underlying89 (⟨fun _ => nofun, fun _ _ => nofun⟩) rfl rfl rfl
theorem tok_90 : TOk Try.prog 90 ⟨.other, 1, 8, true, .nilf⟩ := tok (inf := Try.t90) Try.type90 rfl Try.underlying90 (⟨fun _ => nofun, fun _ _ => nofun⟩) rfl rfl rfl
theorem tok_91 : TOk Try.prog 91 ⟨.other, 1, 8, true, .nilf⟩ := tok (inf := Try.t91) Try.type91 rfl Try.underlying91 (⟨fun _ => nofun, fun _ _ => nofun⟩) rfl rfl rfl
theorem tok_92 : TOk Try.prog 92 ⟨.int .u64, 1, 8, true, .n .u64 0⟩ := tok (inf := Try.t92) Try.type92 rfl Try.underlying92 (rfl) rfl rfl rfl
theorem tok_93 : TOk Try.prog 93 ⟨.other, 1, 8, true, .nilf⟩ := tok (inf := Try.t93) Try.type93 rfl Try.underlying93 (⟨fun _ => nofun, fun _ _ => nofun⟩) rfl rfl rfl
theorem tok_94 : TOk Try.prog 94 ⟨.other, 1, 8, true, .nilf⟩ := tok (inf := Try.t94) Try.type94 rfl Try.underlying94 (⟨fun _ => nofun, fun _ _ => nofun⟩) rfl rfl rfl
theorem tok_95 : TOk Try.prog 95 ⟨.other, 1, 8, true, .nilf⟩ := tok (inf := Try.t95) Try.type95 rfl Try.underlying95 (⟨fun _ => nofun, fun _ _ => nofun⟩) rfl rfl rfl
theorem tok_96 : TOk Try.prog 96 ⟨.other, 1, 8, true, .nilf⟩ := tok (inf := Try.t96) Try.type96 rfl Try.underlying96 (⟨fun _ => nofun, fun _ _ => nofun⟩) rfl rfl rfl
theorem tok_97 : TOk Try.prog 97 ⟨.other, 1, 8, true, .nilf⟩ := tok (inf := Try.t97) Try.type97 rfl Try.underlying97 (⟨fun _ => nofun, fun _ _ => nofun⟩) rfl rfl rfl
theorem tok_98 : TOk Try.prog 98 ⟨.other, 1, 8, true, .nilf⟩ := tok (inf := Try.t98) Try.type98 rfl Try.underlying98 (⟨fun _ => nofun, fun _ _ => nofun⟩) rfl rfl rfl
theorem tok_104 : TOk Try.prog 104 ⟨.other, 1, 8, true, .nilf⟩ := tok (inf := Try.t104) Try.type104 rfl Try.underlying104 (⟨fun _ => nofun, fun _ _ => nofun⟩) rfl rfl rfl
theorem tok_105 : TOk Try.prog 105 ⟨.int .u32, 1, 4, true, .n .u32 0⟩ := tok (inf := Try.t105) Try.type105 rfl Try.underlying105 (rfl) rfl rfl rfl
theorem tok_109 : TOk Try.prog 109 ⟨.ptr 5, 1, 8, true, .nilp⟩ := tok (inf := Try.t109) Try.type109 rfl Try.underlying109 (rfl) rfl rfl rfl
theorem table_ok : Table.Ok Try.prog table :=
  .cons tok_1 (.cons tok_2 (.cons tok_3 (.cons tok_4 (.cons tok_5 (.cons tok_9 (.cons tok_12 (.cons tok_20 (.cons tok_22 (.cons tok_23 (.cons tok_24 (.cons tok_25 (.cons tok_26 (.cons tok_27 (.cons tok_28 (.cons tok_29 (.cons tok_31 (.cons tok_32 (.cons tok_33 (.cons tok_34 (.cons tok_36 (.cons tok_37 (.cons tok_38 (.cons tok_39 (.cons tok_40 (.cons tok_41 (.cons tok_42 (.cons tok_43 (.cons tok_44 (.cons tok_45 (.cons tok_46 (.cons tok_47 (.cons tok_48 (.cons tok_49 (.cons tok_50 (.cons tok_51 (.cons tok_52 (.cons tok_53 (.cons tok_54 (.cons tok_55 (.cons tok_56 (.cons tok_57 (.cons tok_59 (.cons tok_60 (.cons tok_61 (.cons tok_62 (.cons tok_63 (.cons tok_64 (.cons tok_65 (.cons tok_66 (.cons tok_67 (.cons tok_69 (.cons tok_70 (.cons tok_71 (.cons tok_73 (.cons tok_74 (.cons tok_75 (.cons tok_76 (.cons tok_78 (.cons tok_79 (.cons tok_80 (.cons tok_81 (.cons tok_82 (.cons tok_83 (.cons tok_84 (.cons tok_85 (.cons tok_86 (.cons tok_87 (.cons tok_88 (.cons tok_89 (.cons tok_90 (.cons tok_91 (.cons tok_92 (.cons tok_93 (.cons tok_94 (.cons tok_95 (.cons tok_96 (.cons tok_97 (.cons tok_98 (.cons tok_104 (.cons tok_105 (.cons tok_109 .nil)))))))))))))))))))))))))))))))))))))))))))))))))))))))))))))))))))))))))))))))))
def eqTable : List (TypeId × List CK) := [(24, [.i .u64, .i .u64]), (26, [.i .u64, .i .u64, .i .u64, .i .u64]), (32, [.i .u64, .i .u64]), (34, [.i .u64, .i .u64, .i .u64, .i .u64])]
def E : TypeId → Option (List CK) := eqGet eqTable
@[go_sem] theorem E_24 : E 24 = some [.i .u64, .i .u64] := rfl
@[go_sem] theorem E_26 : E 26 = some [.i .u64, .i .u64, .i .u64, .i .u64] := rfl
@[go_sem] theorem E_32 : E 32 = some [.i .u64, .i .u64] := rfl
@[go_sem] theorem E_34 : E 34 = some [.i .u64, .i .u64, .i .u64, .i .u64] := rfl
theorem eq_24 : PlainEq Try.prog 24 [.i .u64, .i .u64] := plainEq_kinds (m := 3) (D := 3) (by omega) (by kernel_rfl) (by kernel_rfl) (by kernel_rfl) (by kernel_rfl)
theorem eq_26 : PlainEq Try.prog 26 [.i .u64, .i .u64, .i .u64, .i .u64] := plainEq_kinds (m := 4) (D := 4) (by omega) (by kernel_rfl) (by kernel_rfl) (by kernel_rfl) (by kernel_rfl)
theorem eq_32 : PlainEq Try.prog 32 [.i .u64, .i .u64] := plainEq_kinds (m := 3) (D := 3) (by omega) (by kernel_rfl) (by kernel_rfl) (by kernel_rfl) (by kernel_rfl)
theorem eq_34 : PlainEq Try.prog 34 [.i .u64, .i .u64, .i .u64, .i .u64] := plainEq_kinds (m := 4) (D := 4) (by omega) (by kernel_rfl) (by kernel_rfl) (by kernel_rfl) (by kernel_rfl)
theorem eqs_ok : EqRows Try.prog eqTable :=
  .cons eq_24 (.cons eq_26 (.cons eq_32 (.cons eq_34 (.nil))))
end Go.Proofs.Ytlcnohmnemmbdaa.I
