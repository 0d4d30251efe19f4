/- The rows of the types and the functions that may be entered, for the seat's own program: printed by a small program (seatgen.py).  Conditions: none. -/
import Derived.Test.YtlhgibiffekpfaaRows
import Derived.Test.YtlhgibiffekpfaaVCCode
namespace Go.Proofs.Ytlhgibiffekpfaa
set_option linter.unusedSimpArgs false
set_option linter.unusedVariables false
open Go VC
theorem hm : Try.prog.follows .mixedOrders = true := by kernel_rfl
/-- () -/
theorem row0 : row Try.prog 0 = ⟨.other, 1, 0, some (.tuple #[])⟩ := by kernel_rfl
/-- func() -/
theorem row1 : row Try.prog 1 = ⟨.func, 1, 8, some .nilFunc⟩ := by kernel_rfl
/-- int64 -/
theorem row2 : row Try.prog 2 = ⟨.int .i64, 1, 8, some (.int .i64 0)⟩ := by kernel_rfl
/-- int -/
theorem row3 : row Try.prog 3 = ⟨.int .i64, 1, 8, some (.int .i64 0)⟩ := by kernel_rfl
/-- bool -/
theorem row4 : row Try.prog 4 = ⟨.bool, 1, 1, some (.bool false)⟩ := by kernel_rfl
/-- uint8 -/
theorem row5 : row Try.prog 5 = ⟨.int .u8, 1, 1, some (.int .u8 0)⟩ := by kernel_rfl
/-- abi.BoundsErrorCode -/
theorem row6 : row Try.prog 6 = ⟨.int .u8, 1, 1, some (.int .u8 0)⟩ := by kernel_rfl
/-- struct { x int64; y int; signed bool; code abi.BoundsErrorCode } -/
theorem row7 : row Try.prog 7 = ⟨.struct [(0, 2), (1, 3), (2, 4), (3, 6)], 4, 24, some (.agg #[(.int .i64 0), (.int .i64 0), (.bool false), (.int .u8 0)])⟩ := by kernel_rfl
/-- runtime.boundsError -/
theorem row8 : row Try.prog 8 = ⟨.struct [(0, 2), (1, 3), (2, 4), (3, 6)], 4, 24, some (.agg #[(.int .i64 0), (.int .i64 0), (.bool false), (.int .u8 0)])⟩ := by kernel_rfl
/-- string -/
theorem row9 : row Try.prog 9 = ⟨.string, 1, 16, some (.string ⟨#[]⟩)⟩ := by kernel_rfl
/-- runtime.errorString -/
theorem row10 : row Try.prog 10 = ⟨.string, 1, 16, some (.string ⟨#[]⟩)⟩ := by kernel_rfl
/-- runtime.plainError -/
theorem row11 : row Try.prog 11 = ⟨.string, 1, 16, some (.string ⟨#[]⟩)⟩ := by kernel_rfl
/-- uintptr -/
theorem row12 : row Try.prog 12 = ⟨.int .u64, 1, 8, some (.int .u64 0)⟩ := by kernel_rfl
/-- struct { msg string; addr uintptr } -/
theorem row13 : row Try.prog 13 = ⟨.struct [(0, 9), (1, 12)], 2, 24, some (.agg #[(.string ⟨#[]⟩), (.int .u64 0)])⟩ := by kernel_rfl
/-- runtime.errorAddressString -/
theorem row14 : row Try.prog 14 = ⟨.struct [(0, 9), (1, 12)], 2, 24, some (.agg #[(.string ⟨#[]⟩), (.int .u64 0)])⟩ := by kernel_rfl
/-- *runtime.TypeAssertionError -/
theorem row15 : row Try.prog 15 = ⟨.ptr 125, 1, 8, some (.pointer none)⟩ := by kernel_rfl
/-- *runtime.PanicNilError -/
theorem row16 : row Try.prog 16 = ⟨.ptr 128, 1, 8, some (.pointer none)⟩ := by kernel_rfl
/-- *abi.Type -/
theorem row17 : row Try.prog 17 = ⟨.ptr 136, 1, 8, some (.pointer none)⟩ := by kernel_rfl
/-- struct { typ *abi.Type } -/
theorem row18 : row Try.prog 18 = ⟨.struct [(0, 17)], 1, 8, some (.agg #[(.pointer none)])⟩ := by kernel_rfl
/-- maps.unhashableTypeError -/
theorem row19 : row Try.prog 19 = ⟨.struct [(0, 17)], 1, 8, some (.agg #[(.pointer none)])⟩ := by kernel_rfl
/-- interface {} -/
theorem row20 : row Try.prog 20 = ⟨.iface, 1, 16, some .nilIface⟩ := by kernel_rfl
/-- int32 -/
theorem row21 : row Try.prog 21 = ⟨.int .i32, 1, 4, some (.int .i32 0)⟩ := by kernel_rfl
/-- []string -/
theorem row22 : row Try.prog 22 = ⟨.slice 9, 1, 24, some (.slice none 0 0)⟩ := by kernel_rfl
/-- func() bool -/
theorem row23 : row Try.prog 23 = ⟨.func, 1, 8, some .nilFunc⟩ := by kernel_rfl
/-- *ring.Ring[string] -/
theorem row24 : row Try.prog 24 = ⟨.ptr 82, 1, 8, some (.pointer none)⟩ := by kernel_rfl
/-- func(int) *ring.Ring[string] -/
theorem row25 : row Try.prog 25 = ⟨.func, 1, 8, some .nilFunc⟩ := by kernel_rfl
/-- (string, bool) -/
theorem row26 : row Try.prog 26 = ⟨.other, 1, 0, some (.tuple #[(.string ⟨#[]⟩), (.bool false)])⟩ := by kernel_rfl
/-- func(string) (string, bool) -/
theorem row27 : row Try.prog 27 = ⟨.func, 1, 8, some .nilFunc⟩ := by kernel_rfl
/-- func() int -/
theorem row28 : row Try.prog 28 = ⟨.func, 1, 8, some .nilFunc⟩ := by kernel_rfl
/-- func(int) (string, bool) -/
theorem row29 : row Try.prog 29 = ⟨.func, 1, 8, some .nilFunc⟩ := by kernel_rfl
/-- func(int, []string) bool -/
theorem row30 : row Try.prog 30 = ⟨.func, 1, 8, some .nilFunc⟩ := by kernel_rfl
/-- []int -/
theorem row31 : row Try.prog 31 = ⟨.slice 3, 1, 24, some (.slice none 0 0)⟩ := by kernel_rfl
/-- *ring.Table[int] -/
theorem row32 : row Try.prog 32 = ⟨.ptr 85, 1, 8, some (.pointer none)⟩ := by kernel_rfl
/-- func(int) *ring.Table[int] -/
theorem row33 : row Try.prog 33 = ⟨.func, 1, 8, some .nilFunc⟩ := by kernel_rfl
/-- api.Errno -/
theorem row34 : row Try.prog 34 = ⟨.int .i64, 1, 8, some (.int .i64 0)⟩ := by kernel_rfl
/-- (int, api.Errno) -/
theorem row35 : row Try.prog 35 = ⟨.other, 1, 0, some (.tuple #[(.int .i64 0), (.int .i64 0)])⟩ := by kernel_rfl
/-- func(int) (int, api.Errno) -/
theorem row36 : row Try.prog 36 = ⟨.func, 1, 8, some .nilFunc⟩ := by kernel_rfl
/-- (int, bool) -/
theorem row37 : row Try.prog 37 = ⟨.other, 1, 0, some (.tuple #[(.int .i64 0), (.bool false)])⟩ := by kernel_rfl
/-- func(int) (int, bool) -/
theorem row38 : row Try.prog 38 = ⟨.func, 1, 8, some .nilFunc⟩ := by kernel_rfl
/-- func(int) bool -/
theorem row39 : row Try.prog 39 = ⟨.func, 1, 8, some .nilFunc⟩ := by kernel_rfl
/-- func(int, int) bool -/
theorem row40 : row Try.prog 40 = ⟨.func, 1, 8, some .nilFunc⟩ := by kernel_rfl
/-- func(int, []int) bool -/
theorem row41 : row Try.prog 41 = ⟨.func, 1, 8, some .nilFunc⟩ := by kernel_rfl
/-- []uint8 -/
theorem row42 : row Try.prog 42 = ⟨.slice 5, 1, 24, some (.slice none 0 0)⟩ := by kernel_rfl
/-- *ring.Table[string] -/
theorem row43 : row Try.prog 43 = ⟨.ptr 88, 1, 8, some (.pointer none)⟩ := by kernel_rfl
/-- func(int) *ring.Table[string] -/
theorem row44 : row Try.prog 44 = ⟨.func, 1, 8, some .nilFunc⟩ := by kernel_rfl
/-- func(string) (int, api.Errno) -/
theorem row45 : row Try.prog 45 = ⟨.func, 1, 8, some .nilFunc⟩ := by kernel_rfl
/-- func(int, string) bool -/
theorem row46 : row Try.prog 46 = ⟨.func, 1, 8, some .nilFunc⟩ := by kernel_rfl
/-- func(int, []uint8) bool -/
theorem row47 : row Try.prog 47 = ⟨.func, 1, 8, some .nilFunc⟩ := by kernel_rfl
/-- *ring.Ring[int] -/
theorem row48 : row Try.prog 48 = ⟨.ptr 90, 1, 8, some (.pointer none)⟩ := by kernel_rfl
/-- func(int) *ring.Ring[int] -/
theorem row49 : row Try.prog 49 = ⟨.func, 1, 8, some .nilFunc⟩ := by kernel_rfl
/-- *embrasureref02.Ring -/
theorem row50 : row Try.prog 50 = ⟨.ptr 52, 1, 8, some (.pointer none)⟩ := by kernel_rfl
/-- struct { Most int; L []int } -/
theorem row51 : row Try.prog 51 = ⟨.struct [(0, 3), (1, 31)], 2, 32, some (.agg #[(.int .i64 0), (.slice none 0 0)])⟩ := by kernel_rfl
/-- embrasureref02.Ring -/
theorem row52 : row Try.prog 52 = ⟨.struct [(0, 3), (1, 31)], 2, 32, some (.agg #[(.int .i64 0), (.slice none 0 0)])⟩ := by kernel_rfl
/-- func(func(int) bool) -/
theorem row53 : row Try.prog 53 = ⟨.func, 1, 8, some .nilFunc⟩ := by kernel_rfl
/-- iter.Seq[int] -/
theorem row54 : row Try.prog 54 = ⟨.func, 1, 8, some .nilFunc⟩ := by kernel_rfl
/-- func() iter.Seq[int] -/
theorem row55 : row Try.prog 55 = ⟨.func, 1, 8, some .nilFunc⟩ := by kernel_rfl
/-- *ring.Table[[2]int] -/
theorem row56 : row Try.prog 56 = ⟨.ptr 93, 1, 8, some (.pointer none)⟩ := by kernel_rfl
/-- func(int) *ring.Table[[2]int] -/
theorem row57 : row Try.prog 57 = ⟨.func, 1, 8, some .nilFunc⟩ := by kernel_rfl
/-- [2]int -/
theorem row58 : row Try.prog 58 = ⟨.array 2 3, 2, 16, some (.agg #[(.int .i64 0), (.int .i64 0)])⟩ := by kernel_rfl
/-- func([2]int) (int, api.Errno) -/
theorem row59 : row Try.prog 59 = ⟨.func, 1, 8, some .nilFunc⟩ := by kernel_rfl
/-- func(func(int, [2]int) bool) -/
theorem row60 : row Try.prog 60 = ⟨.func, 1, 8, some .nilFunc⟩ := by kernel_rfl
/-- iter.Seq2[int,[2]int] -/
theorem row61 : row Try.prog 61 = ⟨.func, 1, 8, some .nilFunc⟩ := by kernel_rfl
/-- func() iter.Seq2[int,[2]int] -/
theorem row62 : row Try.prog 62 = ⟨.func, 1, 8, some .nilFunc⟩ := by kernel_rfl
/-- func([]int) bool -/
theorem row63 : row Try.prog 63 = ⟨.func, 1, 8, some .nilFunc⟩ := by kernel_rfl
/-- []bool -/
theorem row64 : row Try.prog 64 = ⟨.slice 4, 1, 24, some (.slice none 0 0)⟩ := by kernel_rfl
/-- func(func(int, int) bool) -/
theorem row65 : row Try.prog 65 = ⟨.func, 1, 8, some .nilFunc⟩ := by kernel_rfl
/-- iter.Seq2[int,int] -/
theorem row66 : row Try.prog 66 = ⟨.func, 1, 8, some .nilFunc⟩ := by kernel_rfl
/-- func() iter.Seq2[int,int] -/
theorem row67 : row Try.prog 67 = ⟨.func, 1, 8, some .nilFunc⟩ := by kernel_rfl
/-- func([]int, []uint8) bool -/
theorem row68 : row Try.prog 68 = ⟨.func, 1, 8, some .nilFunc⟩ := by kernel_rfl
/-- []embrasurelaw02.Step -/
theorem row69 : row Try.prog 69 = ⟨.slice 75, 1, 24, some (.slice none 0 0)⟩ := by kernel_rfl
/-- *embrasureref02.Table -/
theorem row70 : row Try.prog 70 = ⟨.ptr 73, 1, 8, some (.pointer none)⟩ := by kernel_rfl
/-- []embrasureref02.Entry -/
theorem row71 : row Try.prog 71 = ⟨.slice 78, 1, 24, some (.slice none 0 0)⟩ := by kernel_rfl
/-- struct { Most int; Last int; L []embrasureref02.Entry } -/
theorem row72 : row Try.prog 72 = ⟨.struct [(0, 3), (1, 3), (2, 71)], 3, 40, some (.agg #[(.int .i64 0), (.int .i64 0), (.slice none 0 0)])⟩ := by kernel_rfl
/-- embrasureref02.Table -/
theorem row73 : row Try.prog 73 = ⟨.struct [(0, 3), (1, 3), (2, 71)], 3, 40, some (.agg #[(.int .i64 0), (.int .i64 0), (.slice none 0 0)])⟩ := by kernel_rfl
/-- struct { Kind int; ID int; X int } -/
theorem row74 : row Try.prog 74 = ⟨.struct [(0, 3), (1, 3), (2, 3)], 3, 24, some (.agg #[(.int .i64 0), (.int .i64 0), (.int .i64 0)])⟩ := by kernel_rfl
/-- embrasurelaw02.Step -/
theorem row75 : row Try.prog 75 = ⟨.struct [(0, 3), (1, 3), (2, 3)], 3, 24, some (.agg #[(.int .i64 0), (.int .i64 0), (.int .i64 0)])⟩ := by kernel_rfl
/-- func(int) int -/
theorem row76 : row Try.prog 76 = ⟨.func, 1, 8, some .nilFunc⟩ := by kernel_rfl
/-- struct { ID int; X int } -/
theorem row77 : row Try.prog 77 = ⟨.struct [(0, 3), (1, 3)], 2, 16, some (.agg #[(.int .i64 0), (.int .i64 0)])⟩ := by kernel_rfl
/-- embrasureref02.Entry -/
theorem row78 : row Try.prog 78 = ⟨.struct [(0, 3), (1, 3)], 2, 16, some (.agg #[(.int .i64 0), (.int .i64 0)])⟩ := by kernel_rfl
/-- func(int, []embrasurelaw02.Step) bool -/
theorem row79 : row Try.prog 79 = ⟨.func, 1, 8, some .nilFunc⟩ := by kernel_rfl
/-- func([]int, int) bool -/
theorem row80 : row Try.prog 80 = ⟨.func, 1, 8, some .nilFunc⟩ := by kernel_rfl
/-- struct { most int; first int; l []string } -/
theorem row81 : row Try.prog 81 = ⟨.struct [(0, 3), (1, 3), (2, 22)], 3, 40, some (.agg #[(.int .i64 0), (.int .i64 0), (.slice none 0 0)])⟩ := by kernel_rfl
/-- ring.Ring[string] -/
theorem row82 : row Try.prog 82 = ⟨.struct [(0, 3), (1, 3), (2, 22)], 3, 40, some (.agg #[(.int .i64 0), (.int .i64 0), (.slice none 0 0)])⟩ := by kernel_rfl
/-- map[int]int -/
theorem row83 : row Try.prog 83 = ⟨.map 3 3, 1, 8, some (.map none)⟩ := by kernel_rfl
/-- struct { most int; last int; things map[int]int } -/
theorem row84 : row Try.prog 84 = ⟨.struct [(0, 3), (1, 3), (2, 83)], 3, 24, some (.agg #[(.int .i64 0), (.int .i64 0), (.map none)])⟩ := by kernel_rfl
/-- ring.Table[int] -/
theorem row85 : row Try.prog 85 = ⟨.struct [(0, 3), (1, 3), (2, 83)], 3, 24, some (.agg #[(.int .i64 0), (.int .i64 0), (.map none)])⟩ := by kernel_rfl
/-- map[int]string -/
theorem row86 : row Try.prog 86 = ⟨.map 3 9, 1, 8, some (.map none)⟩ := by kernel_rfl
/-- struct { most int; last int; things map[int]string } -/
theorem row87 : row Try.prog 87 = ⟨.struct [(0, 3), (1, 3), (2, 86)], 3, 24, some (.agg #[(.int .i64 0), (.int .i64 0), (.map none)])⟩ := by kernel_rfl
/-- ring.Table[string] -/
theorem row88 : row Try.prog 88 = ⟨.struct [(0, 3), (1, 3), (2, 86)], 3, 24, some (.agg #[(.int .i64 0), (.int .i64 0), (.map none)])⟩ := by kernel_rfl
/-- struct { most int; first int; l []int } -/
theorem row89 : row Try.prog 89 = ⟨.struct [(0, 3), (1, 3), (2, 31)], 3, 40, some (.agg #[(.int .i64 0), (.int .i64 0), (.slice none 0 0)])⟩ := by kernel_rfl
/-- ring.Ring[int] -/
theorem row90 : row Try.prog 90 = ⟨.struct [(0, 3), (1, 3), (2, 31)], 3, 40, some (.agg #[(.int .i64 0), (.int .i64 0), (.slice none 0 0)])⟩ := by kernel_rfl
/-- map[int][2]int -/
theorem row91 : row Try.prog 91 = ⟨.map 3 58, 1, 8, some (.map none)⟩ := by kernel_rfl
/-- struct { most int; last int; things map[int][2]int } -/
theorem row92 : row Try.prog 92 = ⟨.struct [(0, 3), (1, 3), (2, 91)], 3, 24, some (.agg #[(.int .i64 0), (.int .i64 0), (.map none)])⟩ := by kernel_rfl
/-- ring.Table[[2]int] -/
theorem row93 : row Try.prog 93 = ⟨.struct [(0, 3), (1, 3), (2, 91)], 3, 24, some (.agg #[(.int .i64 0), (.int .i64 0), (.map none)])⟩ := by kernel_rfl
/-- func(int, [2]int) bool -/
theorem row94 : row Try.prog 94 = ⟨.func, 1, 8, some .nilFunc⟩ := by kernel_rfl
/-- func(iter.Seq[int]) []int -/
theorem row95 : row Try.prog 95 = ⟨.func, 1, 8, some .nilFunc⟩ := by kernel_rfl
/-- func(map[int][2]int) iter.Seq[int] -/
theorem row96 : row Try.prog 96 = ⟨.func, 1, 8, some .nilFunc⟩ := by kernel_rfl
/-- func(map[int]int) iter.Seq[int] -/
theorem row97 : row Try.prog 97 = ⟨.func, 1, 8, some .nilFunc⟩ := by kernel_rfl
/-- func([]int) -/
theorem row98 : row Try.prog 98 = ⟨.func, 1, 8, some .nilFunc⟩ := by kernel_rfl
/-- func([]int, iter.Seq[int]) []int -/
theorem row99 : row Try.prog 99 = ⟨.func, 1, 8, some .nilFunc⟩ := by kernel_rfl
/-- func([]int, int, int, int) -/
theorem row100 : row Try.prog 100 = ⟨.func, 1, 8, some .nilFunc⟩ := by kernel_rfl
/-- func(uint) int -/
theorem row101 : row Try.prog 101 = ⟨.func, 1, 8, some .nilFunc⟩ := by kernel_rfl
/-- uint -/
theorem row102 : row Try.prog 102 = ⟨.int .u64, 1, 8, some (.int .u64 0)⟩ := by kernel_rfl
/-- func([]int, int, int) -/
theorem row103 : row Try.prog 103 = ⟨.func, 1, 8, some .nilFunc⟩ := by kernel_rfl
/-- slices.sortedHint -/
theorem row104 : row Try.prog 104 = ⟨.int .i64, 1, 8, some (.int .i64 0)⟩ := by kernel_rfl
/-- (int, slices.sortedHint) -/
theorem row105 : row Try.prog 105 = ⟨.other, 1, 0, some (.tuple #[(.int .i64 0), (.int .i64 0)])⟩ := by kernel_rfl
/-- func([]int, int, int) (int, slices.sortedHint) -/
theorem row106 : row Try.prog 106 = ⟨.func, 1, 8, some .nilFunc⟩ := by kernel_rfl
/-- func([]int, int, int) bool -/
theorem row107 : row Try.prog 107 = ⟨.func, 1, 8, some .nilFunc⟩ := by kernel_rfl
/-- func([]int, int, int, int) int -/
theorem row108 : row Try.prog 108 = ⟨.func, 1, 8, some .nilFunc⟩ := by kernel_rfl
/-- func([]int, int, int, int) (int, bool) -/
theorem row109 : row Try.prog 109 = ⟨.func, 1, 8, some .nilFunc⟩ := by kernel_rfl
/-- func(uint32) int -/
theorem row110 : row Try.prog 110 = ⟨.func, 1, 8, some .nilFunc⟩ := by kernel_rfl
/-- uint32 -/
theorem row111 : row Try.prog 111 = ⟨.int .u32, 1, 4, some (.int .u32 0)⟩ := by kernel_rfl
/-- func(uint64) int -/
theorem row112 : row Try.prog 112 = ⟨.func, 1, 8, some .nilFunc⟩ := by kernel_rfl
/-- uint64 -/
theorem row113 : row Try.prog 113 = ⟨.int .u64, 1, 8, some (.int .u64 0)⟩ := by kernel_rfl
/-- slices.xorshift -/
theorem row114 : row Try.prog 114 = ⟨.int .u64, 1, 8, some (.int .u64 0)⟩ := by kernel_rfl
/-- func(int) uint -/
theorem row115 : row Try.prog 115 = ⟨.func, 1, 8, some .nilFunc⟩ := by kernel_rfl
/-- func() uint64 -/
theorem row116 : row Try.prog 116 = ⟨.func, 1, 8, some .nilFunc⟩ := by kernel_rfl
/-- func([]int, int, *int) int -/
theorem row117 : row Try.prog 117 = ⟨.func, 1, 8, some .nilFunc⟩ := by kernel_rfl
/-- *int -/
theorem row118 : row Try.prog 118 = ⟨.ptr 3, 1, 8, some (.pointer none)⟩ := by kernel_rfl
/-- func([]int, int, int, int, *int) int -/
theorem row119 : row Try.prog 119 = ⟨.func, 1, 8, some .nilFunc⟩ := by kernel_rfl
/-- *slices.xorshift -/
theorem row120 : row Try.prog 120 = ⟨.ptr 114, 1, 8, some (.pointer none)⟩ := by kernel_rfl
/-- (int, int) -/
theorem row121 : row Try.prog 121 = ⟨.other, 1, 0, some (.tuple #[(.int .i64 0), (.int .i64 0)])⟩ := by kernel_rfl
/-- func([]int, int, int, *int) (int, int) -/
theorem row122 : row Try.prog 122 = ⟨.func, 1, 8, some .nilFunc⟩ := by kernel_rfl
/-- func() string -/
theorem row123 : row Try.prog 123 = ⟨.func, 1, 8, some .nilFunc⟩ := by kernel_rfl
/-- struct { _interface *abi.Type; concrete *abi.Type; asserted *abi.Type; missingMethod string } -/
theorem row124 : row Try.prog 124 = ⟨.struct [(0, 17), (1, 17), (2, 17), (3, 9)], 4, 40, some (.agg #[(.pointer none), (.pointer none), (.pointer none), (.string ⟨#[]⟩)])⟩ := by kernel_rfl
/-- runtime.TypeAssertionError -/
theorem row125 : row Try.prog 125 = ⟨.struct [(0, 17), (1, 17), (2, 17), (3, 9)], 4, 40, some (.agg #[(.pointer none), (.pointer none), (.pointer none), (.string ⟨#[]⟩)])⟩ := by kernel_rfl
/-- [0]*runtime.PanicNilError -/
theorem row126 : row Try.prog 126 = ⟨.array 0 16, 0, 0, some (.agg #[])⟩ := by kernel_rfl
/-- struct { _ [0]*runtime.PanicNilError } -/
theorem row127 : row Try.prog 127 = ⟨.struct [(0, 126)], 0, 0, some (.agg #[])⟩ := by kernel_rfl
/-- runtime.PanicNilError -/
theorem row128 : row Try.prog 128 = ⟨.struct [(0, 126)], 0, 0, some (.agg #[])⟩ := by kernel_rfl
/-- abi.TFlag -/
theorem row129 : row Try.prog 129 = ⟨.int .u8, 1, 1, some (.int .u8 0)⟩ := by kernel_rfl
/-- abi.Kind -/
theorem row130 : row Try.prog 130 = ⟨.int .u8, 1, 1, some (.int .u8 0)⟩ := by kernel_rfl
/-- func(unsafe.Pointer, unsafe.Pointer) bool -/
theorem row131 : row Try.prog 131 = ⟨.func, 1, 8, some .nilFunc⟩ := by kernel_rfl
/-- *uint8 -/
theorem row132 : row Try.prog 132 = ⟨.ptr 5, 1, 8, some (.pointer none)⟩ := by kernel_rfl
/-- abi.NameOff -/
theorem row133 : row Try.prog 133 = ⟨.int .i32, 1, 4, some (.int .i32 0)⟩ := by kernel_rfl
/-- abi.TypeOff -/
theorem row134 : row Try.prog 134 = ⟨.int .i32, 1, 4, some (.int .i32 0)⟩ := by kernel_rfl
/-- struct { Size_ uintptr; PtrBytes uintptr; Hash uint32; TFlag abi.TFlag; Align_ uint8; FieldAlign_ uint8; Kind_ abi.Kind; Equal func(unsafe.Pointer, unsafe.Pointer) bool; GCData *uint8; Str abi.NameOff; PtrToThis abi.TypeOff } -/
theorem row135 : row Try.prog 135 = ⟨.struct [(0, 12), (1, 12), (2, 111), (3, 129), (4, 5), (5, 5), (6, 130), (7, 131), (8, 132), (9, 133), (10, 134)], 11, 48, some (.agg #[(.int .u64 0), (.int .u64 0), (.int .u32 0), (.int .u8 0), (.int .u8 0), (.int .u8 0), (.int .u8 0), .nilFunc, (.pointer none), (.int .i32 0), (.int .i32 0)])⟩ := by kernel_rfl
/-- abi.Type -/
theorem row136 : row Try.prog 136 = ⟨.struct [(0, 12), (1, 12), (2, 111), (3, 129), (4, 5), (5, 5), (6, 130), (7, 131), (8, 132), (9, 133), (10, 134)], 11, 48, some (.agg #[(.int .u64 0), (.int .u64 0), (.int .u32 0), (.int .u8 0), (.int .u8 0), (.int .u8 0), (.int .u8 0), .nilFunc, (.pointer none), (.int .i32 0), (.int .i32 0)])⟩ := by kernel_rfl
/-- func() iter.Seq[string] -/
theorem row137 : row Try.prog 137 = ⟨.func, 1, 8, some .nilFunc⟩ := by kernel_rfl
/-- func() iter.Seq2[int,string] -/
theorem row138 : row Try.prog 138 = ⟨.func, 1, 8, some .nilFunc⟩ := by kernel_rfl
/-- func(int) ([2]int, bool) -/
theorem row139 : row Try.prog 139 = ⟨.func, 1, 8, some .nilFunc⟩ := by kernel_rfl
/-- unsafe.Pointer -/
theorem row140 : row Try.prog 140 = ⟨.other, 1, 8, some (.pointer none)⟩ := by kernel_rfl
/-- func(func(string) bool) -/
theorem row141 : row Try.prog 141 = ⟨.func, 1, 8, some .nilFunc⟩ := by kernel_rfl
/-- iter.Seq[string] -/
theorem row142 : row Try.prog 142 = ⟨.func, 1, 8, some .nilFunc⟩ := by kernel_rfl
/-- func(func(int, string) bool) -/
theorem row143 : row Try.prog 143 = ⟨.func, 1, 8, some .nilFunc⟩ := by kernel_rfl
/-- iter.Seq2[int,string] -/
theorem row144 : row Try.prog 144 = ⟨.func, 1, 8, some .nilFunc⟩ := by kernel_rfl
/-- func(string) bool -/
theorem row145 : row Try.prog 145 = ⟨.func, 1, 8, some .nilFunc⟩ := by kernel_rfl
/-- embrasure/embrasurelaw02.RingLast -/
theorem ent3 : Ent Try.prog 3 := ⟨Try.f3, Try.func3, by kernel_rfl, by kernel_rfl⟩
/-- embrasure/embrasurelaw02.RingTableOnce -/
theorem ent4 : Ent Try.prog 4 := ⟨Try.f4, Try.func4, by kernel_rfl, by kernel_rfl⟩
/-- embrasure/embrasurelaw02.RingTableRoom -/
theorem ent5 : Ent Try.prog 5 := ⟨Try.f5, Try.func5, by kernel_rfl, by kernel_rfl⟩
/-- embrasure/embrasurelaw02.RingPlays -/
theorem ent6 : Ent Try.prog 6 := ⟨Try.f6, Try.func6, by kernel_rfl, by kernel_rfl⟩
/-- embrasure/embrasurelaw02.RingOwn -/
theorem ent7 : Ent Try.prog 7 := ⟨Try.f7, Try.func7, by kernel_rfl, by kernel_rfl⟩
/-- embrasure/embrasurelaw02.RingTableOrder -/
theorem ent8 : Ent Try.prog 8 := ⟨Try.f8, Try.func8, by kernel_rfl, by kernel_rfl⟩
/-- embrasure/embrasurelaw02.RingTablePlays -/
theorem ent9 : Ent Try.prog 9 := ⟨Try.f9, Try.func9, by kernel_rfl, by kernel_rfl⟩
/-- embrasure/embrasurelaw02.RingStops -/
theorem ent10 : Ent Try.prog 10 := ⟨Try.f10, Try.func10, by kernel_rfl, by kernel_rfl⟩
/-- embrasure/embrasurelaw02.shown -/
theorem ent11 : Ent Try.prog 11 := ⟨Try.f11, Try.func11, by kernel_rfl, by kernel_rfl⟩
/-- embrasure/ring.New[string] -/
theorem ent12 : Ent Try.prog 12 := ⟨Try.f12, Try.func12, by kernel_rfl, by kernel_rfl⟩
/-- (*embrasure/ring.Ring[string]).Push -/
theorem ent13 : Ent Try.prog 13 := ⟨Try.f13, Try.func13, by kernel_rfl, by kernel_rfl⟩
/-- (*embrasure/ring.Ring[string]).Len -/
theorem ent14 : Ent Try.prog 14 := ⟨Try.f14, Try.func14, by kernel_rfl, by kernel_rfl⟩
/-- (*embrasure/ring.Ring[string]).At -/
theorem ent15 : Ent Try.prog 15 := ⟨Try.f15, Try.func15, by kernel_rfl, by kernel_rfl⟩
/-- embrasure/ring.NewTable[int] -/
theorem ent16 : Ent Try.prog 16 := ⟨Try.f16, Try.func16, by kernel_rfl, by kernel_rfl⟩
/-- (*embrasure/ring.Table[int]).Len -/
theorem ent17 : Ent Try.prog 17 := ⟨Try.f17, Try.func17, by kernel_rfl, by kernel_rfl⟩
/-- (*embrasure/ring.Table[int]).Add -/
theorem ent18 : Ent Try.prog 18 := ⟨Try.f18, Try.func18, by kernel_rfl, by kernel_rfl⟩
/-- (*embrasure/ring.Table[int]).Get -/
theorem ent19 : Ent Try.prog 19 := ⟨Try.f19, Try.func19, by kernel_rfl, by kernel_rfl⟩
/-- (*embrasure/ring.Table[int]).Drop -/
theorem ent20 : Ent Try.prog 20 := ⟨Try.f20, Try.func20, by kernel_rfl, by kernel_rfl⟩
/-- (*embrasure/ring.Table[int]).Put -/
theorem ent21 : Ent Try.prog 21 := ⟨Try.f21, Try.func21, by kernel_rfl, by kernel_rfl⟩
/-- embrasure/ring.NewTable[string] -/
theorem ent22 : Ent Try.prog 22 := ⟨Try.f22, Try.func22, by kernel_rfl, by kernel_rfl⟩
/-- (*embrasure/ring.Table[string]).Add -/
theorem ent23 : Ent Try.prog 23 := ⟨Try.f23, Try.func23, by kernel_rfl, by kernel_rfl⟩
/-- (*embrasure/ring.Table[string]).Drop -/
theorem ent24 : Ent Try.prog 24 := ⟨Try.f24, Try.func24, by kernel_rfl, by kernel_rfl⟩
/-- (*embrasure/ring.Table[string]).Put -/
theorem ent25 : Ent Try.prog 25 := ⟨Try.f25, Try.func25, by kernel_rfl, by kernel_rfl⟩
/-- (*embrasure/ring.Table[string]).Len -/
theorem ent26 : Ent Try.prog 26 := ⟨Try.f26, Try.func26, by kernel_rfl, by kernel_rfl⟩
/-- embrasure/ring.New[int] -/
theorem ent27 : Ent Try.prog 27 := ⟨Try.f27, Try.func27, by kernel_rfl, by kernel_rfl⟩
/-- (*embrasure/ring.Ring[int]).Push -/
theorem ent28 : Ent Try.prog 28 := ⟨Try.f28, Try.func28, by kernel_rfl, by kernel_rfl⟩
/-- (*embrasure/embrasureref02.Ring).Push -/
theorem ent29 : Ent Try.prog 29 := ⟨Try.f29, Try.func29, by kernel_rfl, by kernel_rfl⟩
/-- (*embrasure/ring.Ring[int]).Len -/
theorem ent30 : Ent Try.prog 30 := ⟨Try.f30, Try.func30, by kernel_rfl, by kernel_rfl⟩
/-- (*embrasure/ring.Ring[int]).At -/
theorem ent31 : Ent Try.prog 31 := ⟨Try.f31, Try.func31, by kernel_rfl, by kernel_rfl⟩
/-- (*embrasure/ring.Ring[int]).All -/
theorem ent32 : Ent Try.prog 32 := ⟨Try.f32, Try.func32, by kernel_rfl, by kernel_rfl⟩
/-- embrasure/ring.NewTable[[2]int] -/
theorem ent33 : Ent Try.prog 33 := ⟨Try.f33, Try.func33, by kernel_rfl, by kernel_rfl⟩
/-- (*embrasure/ring.Table[[2]int]).Add -/
theorem ent34 : Ent Try.prog 34 := ⟨Try.f34, Try.func34, by kernel_rfl, by kernel_rfl⟩
/-- (*embrasure/ring.Table[[2]int]).Len -/
theorem ent35 : Ent Try.prog 35 := ⟨Try.f35, Try.func35, by kernel_rfl, by kernel_rfl⟩
/-- (*embrasure/ring.Table[[2]int]).All -/
theorem ent36 : Ent Try.prog 36 := ⟨Try.f36, Try.func36, by kernel_rfl, by kernel_rfl⟩
/-- (*embrasure/ring.Table[int]).All -/
theorem ent37 : Ent Try.prog 37 := ⟨Try.f37, Try.func37, by kernel_rfl, by kernel_rfl⟩
/-- (*embrasure/embrasureref02.Table).Find -/
theorem ent38 : Ent Try.prog 38 := ⟨Try.f38, Try.func38, by kernel_rfl, by kernel_rfl⟩
/-- (*embrasure/embrasureref02.Table).Add -/
theorem ent39 : Ent Try.prog 39 := ⟨Try.f39, Try.func39, by kernel_rfl, by kernel_rfl⟩
/-- (*embrasure/embrasureref02.Table).Drop -/
theorem ent40 : Ent Try.prog 40 := ⟨Try.f40, Try.func40, by kernel_rfl, by kernel_rfl⟩
/-- (*embrasure/ring.Table[string]).Get -/
theorem ent41 : Ent Try.prog 41 := ⟨Try.f41, Try.func41, by kernel_rfl, by kernel_rfl⟩
/-- (*embrasure/ring.Ring[int]).All$1 -/
theorem ent42 : Ent Try.prog 42 := ⟨Try.f42, Try.func42, by kernel_rfl, by kernel_rfl⟩
/-- (*embrasure/ring.Table[[2]int]).All$1 -/
theorem ent43 : Ent Try.prog 43 := ⟨Try.f43, Try.func43, by kernel_rfl, by kernel_rfl⟩
/-- slices.Sorted[int] -/
theorem ent44 : Ent Try.prog 44 := ⟨Try.f44, Try.func44, by kernel_rfl, by kernel_rfl⟩
/-- maps.Keys[map[int][2]int,int,[2]int] -/
theorem ent45 : Ent Try.prog 45 := ⟨Try.f45, Try.func45, by kernel_rfl, by kernel_rfl⟩
/-- (*embrasure/ring.Table[int]).All$1 -/
theorem ent46 : Ent Try.prog 46 := ⟨Try.f46, Try.func46, by kernel_rfl, by kernel_rfl⟩
/-- maps.Keys[map[int]int,int,int] -/
theorem ent47 : Ent Try.prog 47 := ⟨Try.f47, Try.func47, by kernel_rfl, by kernel_rfl⟩
/-- slices.Collect[int] -/
theorem ent48 : Ent Try.prog 48 := ⟨Try.f48, Try.func48, by kernel_rfl, by kernel_rfl⟩
/-- slices.Sort[[]int,int] -/
theorem ent49 : Ent Try.prog 49 := ⟨Try.f49, Try.func49, by kernel_rfl, by kernel_rfl⟩
/-- maps.Keys[map[int][2]int,int,[2]int]$1 -/
theorem ent50 : Ent Try.prog 50 := ⟨Try.f50, Try.func50, by kernel_rfl, by kernel_rfl⟩
/-- maps.Keys[map[int]int,int,int]$1 -/
theorem ent51 : Ent Try.prog 51 := ⟨Try.f51, Try.func51, by kernel_rfl, by kernel_rfl⟩
/-- slices.AppendSeq[[]int,int] -/
theorem ent52 : Ent Try.prog 52 := ⟨Try.f52, Try.func52, by kernel_rfl, by kernel_rfl⟩
/-- slices.pdqsortOrdered[int] -/
theorem ent53 : Ent Try.prog 53 := ⟨Try.f53, Try.func53, by kernel_rfl, by kernel_rfl⟩
/-- math/bits.Len -/
theorem ent54 : Ent Try.prog 54 := ⟨Try.f54, Try.func54, by kernel_rfl, by kernel_rfl⟩
/-- slices.insertionSortOrdered[int] -/
theorem ent55 : Ent Try.prog 55 := ⟨Try.f55, Try.func55, by kernel_rfl, by kernel_rfl⟩
/-- slices.heapSortOrdered[int] -/
theorem ent56 : Ent Try.prog 56 := ⟨Try.f56, Try.func56, by kernel_rfl, by kernel_rfl⟩
/-- slices.breakPatternsOrdered[int] -/
theorem ent57 : Ent Try.prog 57 := ⟨Try.f57, Try.func57, by kernel_rfl, by kernel_rfl⟩
/-- slices.choosePivotOrdered[int] -/
theorem ent58 : Ent Try.prog 58 := ⟨Try.f58, Try.func58, by kernel_rfl, by kernel_rfl⟩
/-- slices.reverseRangeOrdered[int] -/
theorem ent59 : Ent Try.prog 59 := ⟨Try.f59, Try.func59, by kernel_rfl, by kernel_rfl⟩
/-- slices.partialInsertionSortOrdered[int] -/
theorem ent60 : Ent Try.prog 60 := ⟨Try.f60, Try.func60, by kernel_rfl, by kernel_rfl⟩
/-- cmp.Less[int] -/
theorem ent61 : Ent Try.prog 61 := ⟨Try.f61, Try.func61, by kernel_rfl, by kernel_rfl⟩
/-- slices.partitionEqualOrdered[int] -/
theorem ent62 : Ent Try.prog 62 := ⟨Try.f62, Try.func62, by kernel_rfl, by kernel_rfl⟩
/-- slices.partitionOrdered[int] -/
theorem ent63 : Ent Try.prog 63 := ⟨Try.f63, Try.func63, by kernel_rfl, by kernel_rfl⟩
/-- math/bits.Len32 -/
theorem ent64 : Ent Try.prog 64 := ⟨Try.f64, Try.func64, by kernel_rfl, by kernel_rfl⟩
/-- math/bits.Len64 -/
theorem ent65 : Ent Try.prog 65 := ⟨Try.f65, Try.func65, by kernel_rfl, by kernel_rfl⟩
/-- slices.siftDownOrdered[int] -/
theorem ent66 : Ent Try.prog 66 := ⟨Try.f66, Try.func66, by kernel_rfl, by kernel_rfl⟩
/-- slices.nextPowerOfTwo -/
theorem ent67 : Ent Try.prog 67 := ⟨Try.f67, Try.func67, by kernel_rfl, by kernel_rfl⟩
/-- (*slices.xorshift).Next -/
theorem ent68 : Ent Try.prog 68 := ⟨Try.f68, Try.func68, by kernel_rfl, by kernel_rfl⟩
/-- slices.medianAdjacentOrdered[int] -/
theorem ent69 : Ent Try.prog 69 := ⟨Try.f69, Try.func69, by kernel_rfl, by kernel_rfl⟩
/-- slices.medianOrdered[int] -/
theorem ent70 : Ent Try.prog 70 := ⟨Try.f70, Try.func70, by kernel_rfl, by kernel_rfl⟩
/-- cmp.isNaN[int] -/
theorem ent71 : Ent Try.prog 71 := ⟨Try.f71, Try.func71, by kernel_rfl, by kernel_rfl⟩
/-- slices.order2Ordered[int] -/
theorem ent72 : Ent Try.prog 72 := ⟨Try.f72, Try.func72, by kernel_rfl, by kernel_rfl⟩
end Go.Proofs.Ytlhgibiffekpfaa
