/- The rows of the types and the functions that may be entered, for the seat's own program: printed by a small program (seatgen.py).  Conditions: none. -/
import Derived.Test.YtfekkdmnboccfaaRows
import Derived.Test.YtfekkdmnboccfaaVCCode
namespace Go.Proofs.Ytfekkdmnboccfaa
set_option linter.unusedSimpArgs false
set_option linter.unusedVariables false
open Go VC
theorem hm : Try.prog.follows .mixedOrders = true := by kernel_rfl
/-- () -/
theorem row0 : row Try.prog 0 = ⟨.other, 1, 0, some (.tuple #[])⟩ := by kernel_rfl
/-- func() -/
theorem row1 : row Try.prog 1 = ⟨.func, 1, 8, some .nilFunc⟩ := by kernel_rfl
/-- int64 -/
theorem row2 : row Try.prog 2 = ⟨.int .i64, 1, 8, some (.int .i64 0)⟩ := by kernel_rfl
/-- int -/
theorem row3 : row Try.prog 3 = ⟨.int .i64, 1, 8, some (.int .i64 0)⟩ := by kernel_rfl
/-- bool -/
theorem row4 : row Try.prog 4 = ⟨.bool, 1, 1, some (.bool false)⟩ := by kernel_rfl
/-- uint8 -/
theorem row5 : row Try.prog 5 = ⟨.int .u8, 1, 1, some (.int .u8 0)⟩ := by kernel_rfl
/-- abi.BoundsErrorCode -/
theorem row6 : row Try.prog 6 = ⟨.int .u8, 1, 1, some (.int .u8 0)⟩ := by kernel_rfl
/-- struct { x int64; y int; signed bool; code abi.BoundsErrorCode } -/
theorem row7 : row Try.prog 7 = ⟨.struct [(0, 2), (1, 3), (2, 4), (3, 6)], 4, 24, some (.agg #[(.int .i64 0), (.int .i64 0), (.bool false), (.int .u8 0)])⟩ := by kernel_rfl
/-- runtime.boundsError -/
theorem row8 : row Try.prog 8 = ⟨.struct [(0, 2), (1, 3), (2, 4), (3, 6)], 4, 24, some (.agg #[(.int .i64 0), (.int .i64 0), (.bool false), (.int .u8 0)])⟩ := by kernel_rfl
/-- string -/
theorem row9 : row Try.prog 9 = ⟨.string, 1, 16, some (.string ⟨#[]⟩)⟩ := by kernel_rfl
/-- runtime.errorString -/
theorem row10 : row Try.prog 10 = ⟨.string, 1, 16, some (.string ⟨#[]⟩)⟩ := by kernel_rfl
/-- runtime.plainError -/
theorem row11 : row Try.prog 11 = ⟨.string, 1, 16, some (.string ⟨#[]⟩)⟩ := by kernel_rfl
/-- uintptr -/
theorem row12 : row Try.prog 12 = ⟨.int .u64, 1, 8, some (.int .u64 0)⟩ := by kernel_rfl
/-- struct { msg string; addr uintptr } -/
theorem row13 : row Try.prog 13 = ⟨.struct [(0, 9), (1, 12)], 2, 24, some (.agg #[(.string ⟨#[]⟩), (.int .u64 0)])⟩ := by kernel_rfl
/-- runtime.errorAddressString -/
theorem row14 : row Try.prog 14 = ⟨.struct [(0, 9), (1, 12)], 2, 24, some (.agg #[(.string ⟨#[]⟩), (.int .u64 0)])⟩ := by kernel_rfl
/-- *runtime.TypeAssertionError -/
theorem row15 : row Try.prog 15 = ⟨.ptr 129, 1, 8, some (.pointer none)⟩ := by kernel_rfl
/-- *runtime.PanicNilError -/
theorem row16 : row Try.prog 16 = ⟨.ptr 132, 1, 8, some (.pointer none)⟩ := by kernel_rfl
/-- *abi.Type -/
theorem row17 : row Try.prog 17 = ⟨.ptr 139, 1, 8, some (.pointer none)⟩ := by kernel_rfl
/-- struct { typ *abi.Type } -/
theorem row18 : row Try.prog 18 = ⟨.struct [(0, 17)], 1, 8, some (.agg #[(.pointer none)])⟩ := by kernel_rfl
/-- maps.unhashableTypeError -/
theorem row19 : row Try.prog 19 = ⟨.struct [(0, 17)], 1, 8, some (.agg #[(.pointer none)])⟩ := by kernel_rfl
/-- interface {} -/
theorem row20 : row Try.prog 20 = ⟨.iface, 1, 16, some .nilIface⟩ := by kernel_rfl
/-- int32 -/
theorem row21 : row Try.prog 21 = ⟨.int .i32, 1, 4, some (.int .i32 0)⟩ := by kernel_rfl
/-- []api.Message -/
theorem row22 : row Try.prog 22 = ⟨.slice 40, 1, 24, some (.slice none 0 0)⟩ := by kernel_rfl
/-- func() bool -/
theorem row23 : row Try.prog 23 = ⟨.func, 1, 8, some .nilFunc⟩ := by kernel_rfl
/-- func([]api.Message) []api.Message -/
theorem row24 : row Try.prog 24 = ⟨.func, 1, 8, some .nilFunc⟩ := by kernel_rfl
/-- []uint8 -/
theorem row25 : row Try.prog 25 = ⟨.slice 5, 1, 24, some (.slice none 0 0)⟩ := by kernel_rfl
/-- api.Errno -/
theorem row26 : row Try.prog 26 = ⟨.int .i64, 1, 8, some (.int .i64 0)⟩ := by kernel_rfl
/-- ([]uint8, api.Errno) -/
theorem row27 : row Try.prog 27 = ⟨.other, 1, 0, some (.tuple #[(.slice none 0 0), (.int .i64 0)])⟩ := by kernel_rfl
/-- func([]api.Message) ([]uint8, api.Errno) -/
theorem row28 : row Try.prog 28 = ⟨.func, 1, 8, some .nilFunc⟩ := by kernel_rfl
/-- (string, api.Errno) -/
theorem row29 : row Try.prog 29 = ⟨.other, 1, 0, some (.tuple #[(.string ⟨#[]⟩), (.int .i64 0)])⟩ := by kernel_rfl
/-- func([]api.Message) (string, api.Errno) -/
theorem row30 : row Try.prog 30 = ⟨.func, 1, 8, some .nilFunc⟩ := by kernel_rfl
/-- func(api.Message) bool -/
theorem row31 : row Try.prog 31 = ⟨.func, 1, 8, some .nilFunc⟩ := by kernel_rfl
/-- uint16 -/
theorem row32 : row Try.prog 32 = ⟨.int .u16, 1, 2, some (.int .u16 0)⟩ := by kernel_rfl
/-- int8 -/
theorem row33 : row Try.prog 33 = ⟨.int .i8, 1, 1, some (.int .i8 0)⟩ := by kernel_rfl
/-- struct { Seq uint16; Buttons uint8; Dx int8; Dy int8; Ticks int } -/
theorem row34 : row Try.prog 34 = ⟨.struct [(0, 32), (1, 5), (2, 33), (3, 33), (4, 3)], 5, 16, some (.agg #[(.int .u16 0), (.int .u8 0), (.int .i8 0), (.int .i8 0), (.int .i64 0)])⟩ := by kernel_rfl
/-- api.Command -/
theorem row35 : row Try.prog 35 = ⟨.struct [(0, 32), (1, 5), (2, 33), (3, 33), (4, 3)], 5, 16, some (.agg #[(.int .u16 0), (.int .u8 0), (.int .i8 0), (.int .i8 0), (.int .i64 0)])⟩ := by kernel_rfl
/-- struct { X int64; Y int64; Z int64 } -/
theorem row36 : row Try.prog 36 = ⟨.struct [(0, 2), (1, 2), (2, 2)], 3, 24, some (.agg #[(.int .i64 0), (.int .i64 0), (.int .i64 0)])⟩ := by kernel_rfl
/-- api.Vec -/
theorem row37 : row Try.prog 37 = ⟨.struct [(0, 2), (1, 2), (2, 2)], 3, 24, some (.agg #[(.int .i64 0), (.int .i64 0), (.int .i64 0)])⟩ := by kernel_rfl
/-- uint32 -/
theorem row38 : row Try.prog 38 = ⟨.int .u32, 1, 4, some (.int .u32 0)⟩ := by kernel_rfl
/-- struct { Kind int; Seq uint16; Cmd api.Command; Prov uint16; ID int; Shot int; Dir api.Vec; Why api.Errno; Pos api.Vec; Vel api.Vec; Tick uint32; Base uint32; Bytes []uint8 } -/
theorem row39 : row Try.prog 39 = ⟨.struct [(0, 3), (1, 32), (2, 35), (7, 32), (8, 3), (9, 3), (10, 37), (13, 26), (14, 37), (17, 37), (20, 38), (21, 38), (22, 25)], 23, 168, some (.agg #[(.int .i64 0), (.int .u16 0), (.int .u16 0), (.int .u8 0), (.int .i8 0), (.int .i8 0), (.int .i64 0), (.int .u16 0), (.int .i64 0), (.int .i64 0), (.int .i64 0), (.int .i64 0), (.int .i64 0), (.int .i64 0), (.int .i64 0), (.int .i64 0), (.int .i64 0), (.int .i64 0), (.int .i64 0), (.int .i64 0), (.int .u32 0), (.int .u32 0), (.slice none 0 0)])⟩ := by kernel_rfl
/-- api.Message -/
theorem row40 : row Try.prog 40 = ⟨.struct [(0, 3), (1, 32), (2, 35), (7, 32), (8, 3), (9, 3), (10, 37), (13, 26), (14, 37), (17, 37), (20, 38), (21, 38), (22, 25)], 23, 168, some (.agg #[(.int .i64 0), (.int .u16 0), (.int .u16 0), (.int .u8 0), (.int .i8 0), (.int .i8 0), (.int .i64 0), (.int .u16 0), (.int .i64 0), (.int .i64 0), (.int .i64 0), (.int .i64 0), (.int .i64 0), (.int .i64 0), (.int .i64 0), (.int .i64 0), (.int .i64 0), (.int .i64 0), (.int .i64 0), (.int .i64 0), (.int .u32 0), (.int .u32 0), (.slice none 0 0)])⟩ := by kernel_rfl
/-- func([]api.Message) bool -/
theorem row41 : row Try.prog 41 = ⟨.func, 1, 8, some .nilFunc⟩ := by kernel_rfl
/-- ([]api.Message, api.Errno) -/
theorem row42 : row Try.prog 42 = ⟨.other, 1, 0, some (.tuple #[(.slice none 0 0), (.int .i64 0)])⟩ := by kernel_rfl
/-- func([]uint8) ([]api.Message, api.Errno) -/
theorem row43 : row Try.prog 43 = ⟨.func, 1, 8, some .nilFunc⟩ := by kernel_rfl
/-- func(string) ([]api.Message, api.Errno) -/
theorem row44 : row Try.prog 44 = ⟨.func, 1, 8, some .nilFunc⟩ := by kernel_rfl
/-- func([]api.Message, []api.Message) bool -/
theorem row45 : row Try.prog 45 = ⟨.func, 1, 8, some .nilFunc⟩ := by kernel_rfl
/-- func([]uint8) bool -/
theorem row46 : row Try.prog 46 = ⟨.func, 1, 8, some .nilFunc⟩ := by kernel_rfl
/-- func([]api.Message, []uint8) bool -/
theorem row47 : row Try.prog 47 = ⟨.func, 1, 8, some .nilFunc⟩ := by kernel_rfl
/-- func([]api.Message, int, uint8) bool -/
theorem row48 : row Try.prog 48 = ⟨.func, 1, 8, some .nilFunc⟩ := by kernel_rfl
/-- []string -/
theorem row49 : row Try.prog 49 = ⟨.slice 9, 1, 24, some (.slice none 0 0)⟩ := by kernel_rfl
/-- func(api.Message, int, int64) bool -/
theorem row50 : row Try.prog 50 = ⟨.func, 1, 8, some .nilFunc⟩ := by kernel_rfl
/-- func([]api.Message, api.Message) bool -/
theorem row51 : row Try.prog 51 = ⟨.func, 1, 8, some .nilFunc⟩ := by kernel_rfl
/-- []int -/
theorem row52 : row Try.prog 52 = ⟨.slice 3, 1, 24, some (.slice none 0 0)⟩ := by kernel_rfl
/-- uint -/
theorem row53 : row Try.prog 53 = ⟨.int .u64, 1, 8, some (.int .u64 0)⟩ := by kernel_rfl
/-- *message.writer -/
theorem row54 : row Try.prog 54 = ⟨.ptr 58, 1, 8, some (.pointer none)⟩ := by kernel_rfl
/-- struct { b []uint8; n int } -/
theorem row55 : row Try.prog 55 = ⟨.struct [(0, 25), (1, 3)], 2, 32, some (.agg #[(.slice none 0 0), (.int .i64 0)])⟩ := by kernel_rfl
/-- bits.Writer -/
theorem row56 : row Try.prog 56 = ⟨.struct [(0, 25), (1, 3)], 2, 32, some (.agg #[(.slice none 0 0), (.int .i64 0)])⟩ := by kernel_rfl
/-- struct { bits.Writer; wrong bool } -/
theorem row57 : row Try.prog 57 = ⟨.struct [(0, 56), (2, 4)], 3, 40, some (.agg #[(.slice none 0 0), (.int .i64 0), (.bool false)])⟩ := by kernel_rfl
/-- message.writer -/
theorem row58 : row Try.prog 58 = ⟨.struct [(0, 56), (2, 4)], 3, 40, some (.agg #[(.slice none 0 0), (.int .i64 0), (.bool false)])⟩ := by kernel_rfl
/-- func(uint64, int) -/
theorem row59 : row Try.prog 59 = ⟨.func, 1, 8, some .nilFunc⟩ := by kernel_rfl
/-- uint64 -/
theorem row60 : row Try.prog 60 = ⟨.int .u64, 1, 8, some (.int .u64 0)⟩ := by kernel_rfl
/-- func(message.coder, *api.Message) bool -/
theorem row61 : row Try.prog 61 = ⟨.func, 1, 8, some .nilFunc⟩ := by kernel_rfl
/-- *api.Message -/
theorem row62 : row Try.prog 62 = ⟨.ptr 40, 1, 8, some (.pointer none)⟩ := by kernel_rfl
/-- func() []uint8 -/
theorem row63 : row Try.prog 63 = ⟨.func, 1, 8, some .nilFunc⟩ := by kernel_rfl
/-- func([]api.Message) string -/
theorem row64 : row Try.prog 64 = ⟨.func, 1, 8, some .nilFunc⟩ := by kernel_rfl
/-- *message.reader -/
theorem row65 : row Try.prog 65 = ⟨.ptr 69, 1, 8, some (.pointer none)⟩ := by kernel_rfl
/-- *bits.Reader -/
theorem row66 : row Try.prog 66 = ⟨.ptr 106, 1, 8, some (.pointer none)⟩ := by kernel_rfl
/-- func([]uint8) *bits.Reader -/
theorem row67 : row Try.prog 67 = ⟨.func, 1, 8, some .nilFunc⟩ := by kernel_rfl
/-- struct { *bits.Reader; e api.Errno } -/
theorem row68 : row Try.prog 68 = ⟨.struct [(0, 66), (1, 26)], 2, 16, some (.agg #[(.pointer none), (.int .i64 0)])⟩ := by kernel_rfl
/-- message.reader -/
theorem row69 : row Try.prog 69 = ⟨.struct [(0, 66), (1, 26)], 2, 16, some (.agg #[(.pointer none), (.int .i64 0)])⟩ := by kernel_rfl
/-- func(api.Message, api.Message) bool -/
theorem row70 : row Try.prog 70 = ⟨.func, 1, 8, some .nilFunc⟩ := by kernel_rfl
/-- func(api.Message) api.Message -/
theorem row71 : row Try.prog 71 = ⟨.func, 1, 8, some .nilFunc⟩ := by kernel_rfl
/-- func(api.Vec, int64, int64) bool -/
theorem row72 : row Try.prog 72 = ⟨.func, 1, 8, some .nilFunc⟩ := by kernel_rfl
/-- func(message.coder, *int, int) -/
theorem row73 : row Try.prog 73 = ⟨.func, 1, 8, some .nilFunc⟩ := by kernel_rfl
/-- *int -/
theorem row74 : row Try.prog 74 = ⟨.ptr 3, 1, 8, some (.pointer none)⟩ := by kernel_rfl
/-- func(bool) -/
theorem row75 : row Try.prog 75 = ⟨.func, 1, 8, some .nilFunc⟩ := by kernel_rfl
/-- *embrasureref05.Reader -/
theorem row76 : row Try.prog 76 = ⟨.ptr 79, 1, 8, some (.pointer none)⟩ := by kernel_rfl
/-- func(string) string -/
theorem row77 : row Try.prog 77 = ⟨.func, 1, 8, some .nilFunc⟩ := by kernel_rfl
/-- struct { S string; E api.Errno } -/
theorem row78 : row Try.prog 78 = ⟨.struct [(0, 9), (1, 26)], 2, 24, some (.agg #[(.string ⟨#[]⟩), (.int .i64 0)])⟩ := by kernel_rfl
/-- embrasureref05.Reader -/
theorem row79 : row Try.prog 79 = ⟨.struct [(0, 9), (1, 26)], 2, 24, some (.agg #[(.string ⟨#[]⟩), (.int .i64 0)])⟩ := by kernel_rfl
/-- func(int) int -/
theorem row80 : row Try.prog 80 = ⟨.func, 1, 8, some .nilFunc⟩ := by kernel_rfl
/-- func() api.Message -/
theorem row81 : row Try.prog 81 = ⟨.func, 1, 8, some .nilFunc⟩ := by kernel_rfl
/-- func(string) bool -/
theorem row82 : row Try.prog 82 = ⟨.func, 1, 8, some .nilFunc⟩ := by kernel_rfl
/-- *bits.Writer -/
theorem row83 : row Try.prog 83 = ⟨.ptr 56, 1, 8, some (.pointer none)⟩ := by kernel_rfl
/-- func(func(uint8) bool) -/
theorem row84 : row Try.prog 84 = ⟨.func, 1, 8, some .nilFunc⟩ := by kernel_rfl
/-- iter.Seq[uint8] -/
theorem row85 : row Try.prog 85 = ⟨.func, 1, 8, some .nilFunc⟩ := by kernel_rfl
/-- func(uint64, int) iter.Seq[uint8] -/
theorem row86 : row Try.prog 86 = ⟨.func, 1, 8, some .nilFunc⟩ := by kernel_rfl
/-- interface { message.bytes(*[]uint8, int); message.signed(*int64, int); message.whole(*uint64, int); message.within(bool) } -/
theorem row87 : row Try.prog 87 = ⟨.iface, 1, 16, some .nilIface⟩ := by kernel_rfl
/-- message.coder -/
theorem row88 : row Try.prog 88 = ⟨.iface, 1, 16, some .nilIface⟩ := by kernel_rfl
/-- func(message.coder, *api.Command) -/
theorem row89 : row Try.prog 89 = ⟨.func, 1, 8, some .nilFunc⟩ := by kernel_rfl
/-- *api.Command -/
theorem row90 : row Try.prog 90 = ⟨.ptr 35, 1, 8, some (.pointer none)⟩ := by kernel_rfl
/-- func(message.coder, *uint16, int) -/
theorem row91 : row Try.prog 91 = ⟨.func, 1, 8, some .nilFunc⟩ := by kernel_rfl
/-- *uint16 -/
theorem row92 : row Try.prog 92 = ⟨.ptr 32, 1, 8, some (.pointer none)⟩ := by kernel_rfl
/-- func(message.coder, *api.Vec, int, int64) -/
theorem row93 : row Try.prog 93 = ⟨.func, 1, 8, some .nilFunc⟩ := by kernel_rfl
/-- *api.Vec -/
theorem row94 : row Try.prog 94 = ⟨.ptr 37, 1, 8, some (.pointer none)⟩ := by kernel_rfl
/-- func(message.coder, *int) -/
theorem row95 : row Try.prog 95 = ⟨.func, 1, 8, some .nilFunc⟩ := by kernel_rfl
/-- func(message.coder, *api.Errno, int) -/
theorem row96 : row Try.prog 96 = ⟨.func, 1, 8, some .nilFunc⟩ := by kernel_rfl
/-- *api.Errno -/
theorem row97 : row Try.prog 97 = ⟨.ptr 26, 1, 8, some (.pointer none)⟩ := by kernel_rfl
/-- func(message.coder, *uint32, int) -/
theorem row98 : row Try.prog 98 = ⟨.func, 1, 8, some .nilFunc⟩ := by kernel_rfl
/-- *uint32 -/
theorem row99 : row Try.prog 99 = ⟨.ptr 38, 1, 8, some (.pointer none)⟩ := by kernel_rfl
/-- func(*[]uint8, int) -/
theorem row100 : row Try.prog 100 = ⟨.func, 1, 8, some .nilFunc⟩ := by kernel_rfl
/-- *[]uint8 -/
theorem row101 : row Try.prog 101 = ⟨.ptr 25, 1, 8, some (.pointer none)⟩ := by kernel_rfl
/-- func([]uint8) []uint8 -/
theorem row102 : row Try.prog 102 = ⟨.func, 1, 8, some .nilFunc⟩ := by kernel_rfl
/-- func(uint64, int) string -/
theorem row103 : row Try.prog 103 = ⟨.func, 1, 8, some .nilFunc⟩ := by kernel_rfl
/-- func(api.Message) string -/
theorem row104 : row Try.prog 104 = ⟨.func, 1, 8, some .nilFunc⟩ := by kernel_rfl
/-- struct { b []uint8; at int } -/
theorem row105 : row Try.prog 105 = ⟨.struct [(0, 25), (1, 3)], 2, 32, some (.agg #[(.slice none 0 0), (.int .i64 0)])⟩ := by kernel_rfl
/-- bits.Reader -/
theorem row106 : row Try.prog 106 = ⟨.struct [(0, 25), (1, 3)], 2, 32, some (.agg #[(.slice none 0 0), (.int .i64 0)])⟩ := by kernel_rfl
/-- func([]uint8, []uint8) bool -/
theorem row107 : row Try.prog 107 = ⟨.func, 1, 8, some .nilFunc⟩ := by kernel_rfl
/-- func(*uint64, int) -/
theorem row108 : row Try.prog 108 = ⟨.func, 1, 8, some .nilFunc⟩ := by kernel_rfl
/-- *uint64 -/
theorem row109 : row Try.prog 109 = ⟨.ptr 60, 1, 8, some (.pointer none)⟩ := by kernel_rfl
/-- func(bool, api.Errno) -/
theorem row110 : row Try.prog 110 = ⟨.func, 1, 8, some .nilFunc⟩ := by kernel_rfl
/-- func(int) uint64 -/
theorem row111 : row Try.prog 111 = ⟨.func, 1, 8, some .nilFunc⟩ := by kernel_rfl
/-- func() int -/
theorem row112 : row Try.prog 112 = ⟨.func, 1, 8, some .nilFunc⟩ := by kernel_rfl
/-- func(int) string -/
theorem row113 : row Try.prog 113 = ⟨.func, 1, 8, some .nilFunc⟩ := by kernel_rfl
/-- func(string) uint64 -/
theorem row114 : row Try.prog 114 = ⟨.func, 1, 8, some .nilFunc⟩ := by kernel_rfl
/-- func(int) int64 -/
theorem row115 : row Try.prog 115 = ⟨.func, 1, 8, some .nilFunc⟩ := by kernel_rfl
/-- func(int, int64) api.Vec -/
theorem row116 : row Try.prog 116 = ⟨.func, 1, 8, some .nilFunc⟩ := by kernel_rfl
/-- func(uint8) bool -/
theorem row117 : row Try.prog 117 = ⟨.func, 1, 8, some .nilFunc⟩ := by kernel_rfl
/-- func(message.coder, *uint8, int) -/
theorem row118 : row Try.prog 118 = ⟨.func, 1, 8, some .nilFunc⟩ := by kernel_rfl
/-- *uint8 -/
theorem row119 : row Try.prog 119 = ⟨.ptr 5, 1, 8, some (.pointer none)⟩ := by kernel_rfl
/-- *int8 -/
theorem row120 : row Try.prog 120 = ⟨.ptr 33, 1, 8, some (.pointer none)⟩ := by kernel_rfl
/-- []*int8 -/
theorem row121 : row Try.prog 121 = ⟨.slice 120, 1, 24, some (.slice none 0 0)⟩ := by kernel_rfl
/-- func(*int64, int) -/
theorem row122 : row Try.prog 122 = ⟨.func, 1, 8, some .nilFunc⟩ := by kernel_rfl
/-- *int64 -/
theorem row123 : row Try.prog 123 = ⟨.ptr 2, 1, 8, some (.pointer none)⟩ := by kernel_rfl
/-- []*int64 -/
theorem row124 : row Try.prog 124 = ⟨.slice 123, 1, 24, some (.slice none 0 0)⟩ := by kernel_rfl
/-- func(api.Vec, int) string -/
theorem row125 : row Try.prog 125 = ⟨.func, 1, 8, some .nilFunc⟩ := by kernel_rfl
/-- func(string) int64 -/
theorem row126 : row Try.prog 126 = ⟨.func, 1, 8, some .nilFunc⟩ := by kernel_rfl
/-- func() string -/
theorem row127 : row Try.prog 127 = ⟨.func, 1, 8, some .nilFunc⟩ := by kernel_rfl
/-- struct { _interface *abi.Type; concrete *abi.Type; asserted *abi.Type; missingMethod string } -/
theorem row128 : row Try.prog 128 = ⟨.struct [(0, 17), (1, 17), (2, 17), (3, 9)], 4, 40, some (.agg #[(.pointer none), (.pointer none), (.pointer none), (.string ⟨#[]⟩)])⟩ := by kernel_rfl
/-- runtime.TypeAssertionError -/
theorem row129 : row Try.prog 129 = ⟨.struct [(0, 17), (1, 17), (2, 17), (3, 9)], 4, 40, some (.agg #[(.pointer none), (.pointer none), (.pointer none), (.string ⟨#[]⟩)])⟩ := by kernel_rfl
/-- [0]*runtime.PanicNilError -/
theorem row130 : row Try.prog 130 = ⟨.array 0 16, 0, 0, some (.agg #[])⟩ := by kernel_rfl
/-- struct { _ [0]*runtime.PanicNilError } -/
theorem row131 : row Try.prog 131 = ⟨.struct [(0, 130)], 0, 0, some (.agg #[])⟩ := by kernel_rfl
/-- runtime.PanicNilError -/
theorem row132 : row Try.prog 132 = ⟨.struct [(0, 130)], 0, 0, some (.agg #[])⟩ := by kernel_rfl
/-- abi.TFlag -/
theorem row133 : row Try.prog 133 = ⟨.int .u8, 1, 1, some (.int .u8 0)⟩ := by kernel_rfl
/-- abi.Kind -/
theorem row134 : row Try.prog 134 = ⟨.int .u8, 1, 1, some (.int .u8 0)⟩ := by kernel_rfl
/-- func(unsafe.Pointer, unsafe.Pointer) bool -/
theorem row135 : row Try.prog 135 = ⟨.func, 1, 8, some .nilFunc⟩ := by kernel_rfl
/-- abi.NameOff -/
theorem row136 : row Try.prog 136 = ⟨.int .i32, 1, 4, some (.int .i32 0)⟩ := by kernel_rfl
/-- abi.TypeOff -/
theorem row137 : row Try.prog 137 = ⟨.int .i32, 1, 4, some (.int .i32 0)⟩ := by kernel_rfl
/-- struct { Size_ uintptr; PtrBytes uintptr; Hash uint32; TFlag abi.TFlag; Align_ uint8; FieldAlign_ uint8; Kind_ abi.Kind; Equal func(unsafe.Pointer, unsafe.Pointer) bool; GCData *uint8; Str abi.NameOff; PtrToThis abi.TypeOff } -/
theorem row138 : row Try.prog 138 = ⟨.struct [(0, 12), (1, 12), (2, 38), (3, 133), (4, 5), (5, 5), (6, 134), (7, 135), (8, 119), (9, 136), (10, 137)], 11, 48, some (.agg #[(.int .u64 0), (.int .u64 0), (.int .u32 0), (.int .u8 0), (.int .u8 0), (.int .u8 0), (.int .u8 0), .nilFunc, (.pointer none), (.int .i32 0), (.int .i32 0)])⟩ := by kernel_rfl
/-- abi.Type -/
theorem row139 : row Try.prog 139 = ⟨.struct [(0, 12), (1, 12), (2, 38), (3, 133), (4, 5), (5, 5), (6, 134), (7, 135), (8, 119), (9, 136), (10, 137)], 11, 48, some (.agg #[(.int .u64 0), (.int .u64 0), (.int .u32 0), (.int .u8 0), (.int .u8 0), (.int .u8 0), (.int .u8 0), .nilFunc, (.pointer none), (.int .i32 0), (.int .i32 0)])⟩ := by kernel_rfl
/-- func(int64, int) -/
theorem row140 : row Try.prog 140 = ⟨.func, 1, 8, some .nilFunc⟩ := by kernel_rfl
/-- (int64, bool) -/
theorem row141 : row Try.prog 141 = ⟨.other, 1, 0, some (.tuple #[(.int .i64 0), (.bool false)])⟩ := by kernel_rfl
/-- func(int) (int64, bool) -/
theorem row142 : row Try.prog 142 = ⟨.func, 1, 8, some .nilFunc⟩ := by kernel_rfl
/-- (uint64, bool) -/
theorem row143 : row Try.prog 143 = ⟨.other, 1, 0, some (.tuple #[(.int .u64 0), (.bool false)])⟩ := by kernel_rfl
/-- func(int) (uint64, bool) -/
theorem row144 : row Try.prog 144 = ⟨.func, 1, 8, some .nilFunc⟩ := by kernel_rfl
/-- unsafe.Pointer -/
theorem row145 : row Try.prog 145 = ⟨.other, 1, 8, some (.pointer none)⟩ := by kernel_rfl
/-- embrasure/embrasurelaw05.MessageWrites -/
theorem ent3 : Ent Try.prog 3 := ⟨Try.f3, Try.func3, by kernel_rfl, by kernel_rfl⟩
/-- embrasure/embrasurelaw05.MessageReads -/
theorem ent4 : Ent Try.prog 4 := ⟨Try.f4, Try.func4, by kernel_rfl, by kernel_rfl⟩
/-- embrasure/embrasurelaw05.MessageBack -/
theorem ent5 : Ent Try.prog 5 := ⟨Try.f5, Try.func5, by kernel_rfl, by kernel_rfl⟩
/-- embrasure/embrasurelaw05.MessageCuts -/
theorem ent6 : Ent Try.prog 6 := ⟨Try.f6, Try.func6, by kernel_rfl, by kernel_rfl⟩
/-- embrasure/embrasurelaw05.MessageFields -/
theorem ent7 : Ent Try.prog 7 := ⟨Try.f7, Try.func7, by kernel_rfl, by kernel_rfl⟩
/-- embrasure/embrasurelaw05.MessageUnlike -/
theorem ent8 : Ent Try.prog 8 := ⟨Try.f8, Try.func8, by kernel_rfl, by kernel_rfl⟩
/-- embrasure/embrasurelaw05.MessageFewer -/
theorem ent9 : Ent Try.prog 9 := ⟨Try.f9, Try.func9, by kernel_rfl, by kernel_rfl⟩
/-- embrasure/embrasurelaw05.MessageSizes -/
theorem ent10 : Ent Try.prog 10 := ⟨Try.f10, Try.func10, by kernel_rfl, by kernel_rfl⟩
/-- embrasure/embrasurelaw05.MessageOwn -/
theorem ent11 : Ent Try.prog 11 := ⟨Try.f11, Try.func11, by kernel_rfl, by kernel_rfl⟩
/-- embrasure/embrasurelaw05.shown -/
theorem ent12 : Ent Try.prog 12 := ⟨Try.f12, Try.func12, by kernel_rfl, by kernel_rfl⟩
/-- embrasure/embrasurelaw05.few -/
theorem ent13 : Ent Try.prog 13 := ⟨Try.f13, Try.func13, by kernel_rfl, by kernel_rfl⟩
/-- embrasure/message.Encode -/
theorem ent14 : Ent Try.prog 14 := ⟨Try.f14, Try.func14, by kernel_rfl, by kernel_rfl⟩
/-- embrasure/embrasureref05.Encode -/
theorem ent15 : Ent Try.prog 15 := ⟨Try.f15, Try.func15, by kernel_rfl, by kernel_rfl⟩
/-- embrasure/message.Right -/
theorem ent16 : Ent Try.prog 16 := ⟨Try.f16, Try.func16, by kernel_rfl, by kernel_rfl⟩
/-- embrasure/embrasureref05.Right -/
theorem ent17 : Ent Try.prog 17 := ⟨Try.f17, Try.func17, by kernel_rfl, by kernel_rfl⟩
/-- embrasure/message.Decode -/
theorem ent18 : Ent Try.prog 18 := ⟨Try.f18, Try.func18, by kernel_rfl, by kernel_rfl⟩
/-- embrasure/embrasureref05.Decode -/
theorem ent19 : Ent Try.prog 19 := ⟨Try.f19, Try.func19, by kernel_rfl, by kernel_rfl⟩
/-- embrasure/embrasurelaw05.same -/
theorem ent20 : Ent Try.prog 20 := ⟨Try.f20, Try.func20, by kernel_rfl, by kernel_rfl⟩
/-- (*embrasure/bits.Writer).Put -/
theorem ent21 : Ent Try.prog 21 := ⟨Try.f21, Try.func21, by kernel_rfl, by kernel_rfl⟩
/-- embrasure/message.fields -/
theorem ent22 : Ent Try.prog 22 := ⟨Try.f22, Try.func22, by kernel_rfl, by kernel_rfl⟩
/-- (*embrasure/bits.Writer).Bytes -/
theorem ent23 : Ent Try.prog 23 := ⟨Try.f23, Try.func23, by kernel_rfl, by kernel_rfl⟩
/-- embrasure/embrasureref05.Write -/
theorem ent24 : Ent Try.prog 24 := ⟨Try.f24, Try.func24, by kernel_rfl, by kernel_rfl⟩
/-- embrasure/bits.NewReader -/
theorem ent25 : Ent Try.prog 25 := ⟨Try.f25, Try.func25, by kernel_rfl, by kernel_rfl⟩
/-- embrasure/message.same -/
theorem ent26 : Ent Try.prog 26 := ⟨Try.f26, Try.func26, by kernel_rfl, by kernel_rfl⟩
/-- embrasure/embrasureref05.Same -/
theorem ent27 : Ent Try.prog 27 := ⟨Try.f27, Try.func27, by kernel_rfl, by kernel_rfl⟩
/-- embrasure/embrasureref05.Only -/
theorem ent28 : Ent Try.prog 28 := ⟨Try.f28, Try.func28, by kernel_rfl, by kernel_rfl⟩
/-- embrasure/embrasureref05.far -/
theorem ent29 : Ent Try.prog 29 := ⟨Try.f29, Try.func29, by kernel_rfl, by kernel_rfl⟩
/-- embrasure/message.number[int] -/
theorem ent30 : Ent Try.prog 30 := ⟨Try.f30, Try.func30, by kernel_rfl, by kernel_rfl⟩
/-- (*embrasure/message.reader).within -/
theorem ent31 : Ent Try.prog 31 := ⟨Try.f31, Try.func31, by kernel_rfl, by kernel_rfl⟩
/-- (*embrasure/bits.Reader).Rest -/
theorem ent32 : Ent Try.prog 32 := ⟨Try.f32, Try.func32, by kernel_rfl, by kernel_rfl⟩
/-- embrasure/embrasureref03.Of -/
theorem ent33 : Ent Try.prog 33 := ⟨Try.f33, Try.func33, by kernel_rfl, by kernel_rfl⟩
/-- (*embrasure/embrasureref05.Reader).number -/
theorem ent34 : Ent Try.prog 34 := ⟨Try.f34, Try.func34, by kernel_rfl, by kernel_rfl⟩
/-- (*embrasure/embrasureref05.Reader).must -/
theorem ent35 : Ent Try.prog 35 := ⟨Try.f35, Try.func35, by kernel_rfl, by kernel_rfl⟩
/-- (*embrasure/embrasureref05.Reader).message -/
theorem ent36 : Ent Try.prog 36 := ⟨Try.f36, Try.func36, by kernel_rfl, by kernel_rfl⟩
/-- embrasure/embrasureref03.Rest -/
theorem ent37 : Ent Try.prog 37 := ⟨Try.f37, Try.func37, by kernel_rfl, by kernel_rfl⟩
/-- embrasure/bits.high -/
theorem ent38 : Ent Try.prog 38 := ⟨Try.f38, Try.func38, by kernel_rfl, by kernel_rfl⟩
/-- embrasure/bits.within -/
theorem ent39 : Ent Try.prog 39 := ⟨Try.f39, Try.func39, by kernel_rfl, by kernel_rfl⟩
/-- embrasure/message.command -/
theorem ent40 : Ent Try.prog 40 := ⟨Try.f40, Try.func40, by kernel_rfl, by kernel_rfl⟩
/-- embrasure/message.number[uint16] -/
theorem ent41 : Ent Try.prog 41 := ⟨Try.f41, Try.func41, by kernel_rfl, by kernel_rfl⟩
/-- embrasure/message.vec -/
theorem ent42 : Ent Try.prog 42 := ⟨Try.f42, Try.func42, by kernel_rfl, by kernel_rfl⟩
/-- embrasure/message.id -/
theorem ent43 : Ent Try.prog 43 := ⟨Try.f43, Try.func43, by kernel_rfl, by kernel_rfl⟩
/-- embrasure/message.number[embrasure/api.Errno] -/
theorem ent44 : Ent Try.prog 44 := ⟨Try.f44, Try.func44, by kernel_rfl, by kernel_rfl⟩
/-- embrasure/message.number[uint32] -/
theorem ent45 : Ent Try.prog 45 := ⟨Try.f45, Try.func45, by kernel_rfl, by kernel_rfl⟩
/-- slices.Clone[[]byte,byte] -/
theorem ent46 : Ent Try.prog 46 := ⟨Try.f46, Try.func46, by kernel_rfl, by kernel_rfl⟩
/-- embrasure/embrasureref03.Text -/
theorem ent47 : Ent Try.prog 47 := ⟨Try.f47, Try.func47, by kernel_rfl, by kernel_rfl⟩
/-- embrasure/embrasureref05.Bits -/
theorem ent48 : Ent Try.prog 48 := ⟨Try.f48, Try.func48, by kernel_rfl, by kernel_rfl⟩
/-- embrasure/embrasureref03.Bytes -/
theorem ent49 : Ent Try.prog 49 := ⟨Try.f49, Try.func49, by kernel_rfl, by kernel_rfl⟩
/-- slices.Equal[[]byte,byte] -/
theorem ent50 : Ent Try.prog 50 := ⟨Try.f50, Try.func50, by kernel_rfl, by kernel_rfl⟩
/-- (*embrasure/message.reader).fail -/
theorem ent51 : Ent Try.prog 51 := ⟨Try.f51, Try.func51, by kernel_rfl, by kernel_rfl⟩
/-- (*embrasure/bits.Reader).bit -/
theorem ent52 : Ent Try.prog 52 := ⟨Try.f52, Try.func52, by kernel_rfl, by kernel_rfl⟩
/-- (*embrasure/bits.Reader).left -/
theorem ent53 : Ent Try.prog 53 := ⟨Try.f53, Try.func53, by kernel_rfl, by kernel_rfl⟩
/-- (*embrasure/embrasureref05.Reader).take -/
theorem ent54 : Ent Try.prog 54 := ⟨Try.f54, Try.func54, by kernel_rfl, by kernel_rfl⟩
/-- embrasure/embrasureref03.Number -/
theorem ent55 : Ent Try.prog 55 := ⟨Try.f55, Try.func55, by kernel_rfl, by kernel_rfl⟩
/-- (*embrasure/embrasureref05.Reader).signed -/
theorem ent56 : Ent Try.prog 56 := ⟨Try.f56, Try.func56, by kernel_rfl, by kernel_rfl⟩
/-- (*embrasure/embrasureref05.Reader).vec -/
theorem ent57 : Ent Try.prog 57 := ⟨Try.f57, Try.func57, by kernel_rfl, by kernel_rfl⟩
/-- (*embrasure/embrasureref05.Reader).id -/
theorem ent58 : Ent Try.prog 58 := ⟨Try.f58, Try.func58, by kernel_rfl, by kernel_rfl⟩
/-- embrasure/bits.high$1 -/
theorem ent59 : Ent Try.prog 59 := ⟨Try.f59, Try.func59, by kernel_rfl, by kernel_rfl⟩
/-- embrasure/message.number[uint8] -/
theorem ent60 : Ent Try.prog 60 := ⟨Try.f60, Try.func60, by kernel_rfl, by kernel_rfl⟩
/-- embrasure/embrasureref03.Count -/
theorem ent61 : Ent Try.prog 61 := ⟨Try.f61, Try.func61, by kernel_rfl, by kernel_rfl⟩
/-- embrasure/embrasureref05.vec -/
theorem ent62 : Ent Try.prog 62 := ⟨Try.f62, Try.func62, by kernel_rfl, by kernel_rfl⟩
/-- embrasure/embrasureref03.Signed -/
theorem ent63 : Ent Try.prog 63 := ⟨Try.f63, Try.func63, by kernel_rfl, by kernel_rfl⟩
/-- (*embrasure/message.writer).bytes -/
theorem ent80 : Ent Try.prog 80 := ⟨Try.f80, Try.func80, by kernel_rfl, by kernel_rfl⟩
/-- (*embrasure/message.writer).signed -/
theorem ent81 : Ent Try.prog 81 := ⟨Try.f81, Try.func81, by kernel_rfl, by kernel_rfl⟩
/-- (*embrasure/message.writer).whole -/
theorem ent82 : Ent Try.prog 82 := ⟨Try.f82, Try.func82, by kernel_rfl, by kernel_rfl⟩
/-- (*embrasure/message.writer).within -/
theorem ent83 : Ent Try.prog 83 := ⟨Try.f83, Try.func83, by kernel_rfl, by kernel_rfl⟩
/-- (*embrasure/bits.Writer).Sign -/
theorem ent84 : Ent Try.prog 84 := ⟨Try.f84, Try.func84, by kernel_rfl, by kernel_rfl⟩
/-- (*embrasure/message.reader).bytes -/
theorem ent85 : Ent Try.prog 85 := ⟨Try.f85, Try.func85, by kernel_rfl, by kernel_rfl⟩
/-- (*embrasure/message.reader).signed -/
theorem ent86 : Ent Try.prog 86 := ⟨Try.f86, Try.func86, by kernel_rfl, by kernel_rfl⟩
/-- (*embrasure/message.reader).whole -/
theorem ent87 : Ent Try.prog 87 := ⟨Try.f87, Try.func87, by kernel_rfl, by kernel_rfl⟩
/-- (*embrasure/bits.Reader).Sign -/
theorem ent88 : Ent Try.prog 88 := ⟨Try.f88, Try.func88, by kernel_rfl, by kernel_rfl⟩
/-- (*embrasure/bits.Reader).Get -/
theorem ent89 : Ent Try.prog 89 := ⟨Try.f89, Try.func89, by kernel_rfl, by kernel_rfl⟩
end Go.Proofs.Ytfekkdmnboccfaa
