/- The rows of the types and the functions that may be entered, for the seat's own program: printed by a small program (seatgen.py).  Conditions: none. -/
import Derived.Test.YtfdbojnikoonbaaRows
import Derived.Test.YtfdbojnikoonbaaVCCode
namespace Go.Proofs.Ytfdbojnikoonbaa
set_option linter.unusedSimpArgs false
set_option linter.unusedVariables false
open Go VC
theorem hm : Try.prog.follows .mixedOrders = true := by kernel_rfl
/-- () -/
theorem row0 : row Try.prog 0 = ⟨.other, 1, 0, some (.tuple #[])⟩ := by kernel_rfl
/-- func() -/
theorem row1 : row Try.prog 1 = ⟨.func, 1, 8, some .nilFunc⟩ := by kernel_rfl
/-- int64 -/
theorem row2 : row Try.prog 2 = ⟨.int .i64, 1, 8, some (.int .i64 0)⟩ := by kernel_rfl
/-- int -/
theorem row3 : row Try.prog 3 = ⟨.int .i64, 1, 8, some (.int .i64 0)⟩ := by kernel_rfl
/-- bool -/
theorem row4 : row Try.prog 4 = ⟨.bool, 1, 1, some (.bool false)⟩ := by kernel_rfl
/-- uint8 -/
theorem row5 : row Try.prog 5 = ⟨.int .u8, 1, 1, some (.int .u8 0)⟩ := by kernel_rfl
/-- abi.BoundsErrorCode -/
theorem row6 : row Try.prog 6 = ⟨.int .u8, 1, 1, some (.int .u8 0)⟩ := by kernel_rfl
/-- struct { x int64; y int; signed bool; code abi.BoundsErrorCode } -/
theorem row7 : row Try.prog 7 = ⟨.struct [(0, 2), (1, 3), (2, 4), (3, 6)], 4, 24, some (.agg #[(.int .i64 0), (.int .i64 0), (.bool false), (.int .u8 0)])⟩ := by kernel_rfl
/-- runtime.boundsError -/
theorem row8 : row Try.prog 8 = ⟨.struct [(0, 2), (1, 3), (2, 4), (3, 6)], 4, 24, some (.agg #[(.int .i64 0), (.int .i64 0), (.bool false), (.int .u8 0)])⟩ := by kernel_rfl
/-- string -/
theorem row9 : row Try.prog 9 = ⟨.string, 1, 16, some (.string ⟨#[]⟩)⟩ := by kernel_rfl
/-- runtime.errorString -/
theorem row10 : row Try.prog 10 = ⟨.string, 1, 16, some (.string ⟨#[]⟩)⟩ := by kernel_rfl
/-- runtime.plainError -/
theorem row11 : row Try.prog 11 = ⟨.string, 1, 16, some (.string ⟨#[]⟩)⟩ := by kernel_rfl
/-- uintptr -/
theorem row12 : row Try.prog 12 = ⟨.int .u64, 1, 8, some (.int .u64 0)⟩ := by kernel_rfl
/-- struct { msg string; addr uintptr } -/
theorem row13 : row Try.prog 13 = ⟨.struct [(0, 9), (1, 12)], 2, 24, some (.agg #[(.string ⟨#[]⟩), (.int .u64 0)])⟩ := by kernel_rfl
/-- runtime.errorAddressString -/
theorem row14 : row Try.prog 14 = ⟨.struct [(0, 9), (1, 12)], 2, 24, some (.agg #[(.string ⟨#[]⟩), (.int .u64 0)])⟩ := by kernel_rfl
/-- *runtime.TypeAssertionError -/
theorem row15 : row Try.prog 15 = ⟨.ptr 59, 1, 8, some (.pointer none)⟩ := by kernel_rfl
/-- *runtime.PanicNilError -/
theorem row16 : row Try.prog 16 = ⟨.ptr 62, 1, 8, some (.pointer none)⟩ := by kernel_rfl
/-- *abi.Type -/
theorem row17 : row Try.prog 17 = ⟨.ptr 71, 1, 8, some (.pointer none)⟩ := by kernel_rfl
/-- struct { typ *abi.Type } -/
theorem row18 : row Try.prog 18 = ⟨.struct [(0, 17)], 1, 8, some (.agg #[(.pointer none)])⟩ := by kernel_rfl
/-- maps.unhashableTypeError -/
theorem row19 : row Try.prog 19 = ⟨.struct [(0, 17)], 1, 8, some (.agg #[(.pointer none)])⟩ := by kernel_rfl
/-- interface {} -/
theorem row20 : row Try.prog 20 = ⟨.iface, 1, 16, some .nilIface⟩ := by kernel_rfl
/-- int32 -/
theorem row21 : row Try.prog 21 = ⟨.int .i32, 1, 4, some (.int .i32 0)⟩ := by kernel_rfl
/-- []uint16 -/
theorem row22 : row Try.prog 22 = ⟨.slice 26, 1, 24, some (.slice none 0 0)⟩ := by kernel_rfl
/-- func() bool -/
theorem row23 : row Try.prog 23 = ⟨.func, 1, 8, some .nilFunc⟩ := by kernel_rfl
/-- *bind.Table -/
theorem row24 : row Try.prog 24 = ⟨.ptr 43, 1, 8, some (.pointer none)⟩ := by kernel_rfl
/-- func() *bind.Table -/
theorem row25 : row Try.prog 25 = ⟨.func, 1, 8, some .nilFunc⟩ := by kernel_rfl
/-- uint16 -/
theorem row26 : row Try.prog 26 = ⟨.int .u16, 1, 2, some (.int .u16 0)⟩ := by kernel_rfl
/-- api.Errno -/
theorem row27 : row Try.prog 27 = ⟨.int .i64, 1, 8, some (.int .i64 0)⟩ := by kernel_rfl
/-- func(int, uint16, int) api.Errno -/
theorem row28 : row Try.prog 28 = ⟨.func, 1, 8, some .nilFunc⟩ := by kernel_rfl
/-- func() int -/
theorem row29 : row Try.prog 29 = ⟨.func, 1, 8, some .nilFunc⟩ := by kernel_rfl
/-- (int, api.Errno) -/
theorem row30 : row Try.prog 30 = ⟨.other, 1, 0, some (.tuple #[(.int .i64 0), (.int .i64 0)])⟩ := by kernel_rfl
/-- func(int, uint16) (int, api.Errno) -/
theorem row31 : row Try.prog 31 = ⟨.func, 1, 8, some .nilFunc⟩ := by kernel_rfl
/-- func(int, []uint16) bool -/
theorem row32 : row Try.prog 32 = ⟨.func, 1, 8, some .nilFunc⟩ := by kernel_rfl
/-- []embrasurelaw15.Op -/
theorem row33 : row Try.prog 33 = ⟨.slice 35, 1, 24, some (.slice none 0 0)⟩ := by kernel_rfl
/-- struct { Kind int; Client int; Prov uint16; ID int } -/
theorem row34 : row Try.prog 34 = ⟨.struct [(0, 3), (1, 3), (2, 26), (3, 3)], 4, 32, some (.agg #[(.int .i64 0), (.int .i64 0), (.int .u16 0), (.int .i64 0)])⟩ := by kernel_rfl
/-- embrasurelaw15.Op -/
theorem row35 : row Try.prog 35 = ⟨.struct [(0, 3), (1, 3), (2, 26), (3, 3)], 4, 32, some (.agg #[(.int .i64 0), (.int .i64 0), (.int .u16 0), (.int .i64 0)])⟩ := by kernel_rfl
/-- func(int, uint16) api.Errno -/
theorem row36 : row Try.prog 36 = ⟨.func, 1, 8, some .nilFunc⟩ := by kernel_rfl
/-- func([]embrasurelaw15.Op) bool -/
theorem row37 : row Try.prog 37 = ⟨.func, 1, 8, some .nilFunc⟩ := by kernel_rfl
/-- func(*bind.Table, embrasurelaw15.Op) api.Errno -/
theorem row38 : row Try.prog 38 = ⟨.func, 1, 8, some .nilFunc⟩ := by kernel_rfl
/-- func([]embrasurelaw15.Op, int) bool -/
theorem row39 : row Try.prog 39 = ⟨.func, 1, 8, some .nilFunc⟩ := by kernel_rfl
/-- map[int]*bind.client -/
theorem row40 : row Try.prog 40 = ⟨.map 3 44, 1, 8, some (.map none)⟩ := by kernel_rfl
/-- map[int]bool -/
theorem row41 : row Try.prog 41 = ⟨.map 3 4, 1, 8, some (.map none)⟩ := by kernel_rfl
/-- struct { clients map[int]*bind.client; ids map[int]bool } -/
theorem row42 : row Try.prog 42 = ⟨.struct [(0, 40), (1, 41)], 2, 16, some (.agg #[(.map none), (.map none)])⟩ := by kernel_rfl
/-- bind.Table -/
theorem row43 : row Try.prog 43 = ⟨.struct [(0, 40), (1, 41)], 2, 16, some (.agg #[(.map none), (.map none)])⟩ := by kernel_rfl
/-- *bind.client -/
theorem row44 : row Try.prog 44 = ⟨.ptr 47, 1, 8, some (.pointer none)⟩ := by kernel_rfl
/-- map[uint16]int -/
theorem row45 : row Try.prog 45 = ⟨.map 26 3, 1, 8, some (.map none)⟩ := by kernel_rfl
/-- struct { newest uint16; ids map[uint16]int } -/
theorem row46 : row Try.prog 46 = ⟨.struct [(0, 26), (1, 45)], 2, 16, some (.agg #[(.int .u16 0), (.map none)])⟩ := by kernel_rfl
/-- bind.client -/
theorem row47 : row Try.prog 47 = ⟨.struct [(0, 26), (1, 45)], 2, 16, some (.agg #[(.int .u16 0), (.map none)])⟩ := by kernel_rfl
/-- (int, bool) -/
theorem row48 : row Try.prog 48 = ⟨.other, 1, 0, some (.tuple #[(.int .i64 0), (.bool false)])⟩ := by kernel_rfl
/-- func(uint16) bool -/
theorem row49 : row Try.prog 49 = ⟨.func, 1, 8, some .nilFunc⟩ := by kernel_rfl
/-- func(int) -/
theorem row50 : row Try.prog 50 = ⟨.func, 1, 8, some .nilFunc⟩ := by kernel_rfl
/-- func(uint16, uint16) bool -/
theorem row51 : row Try.prog 51 = ⟨.func, 1, 8, some .nilFunc⟩ := by kernel_rfl
/-- func(*bind.client, func(uint16) bool) -/
theorem row52 : row Try.prog 52 = ⟨.func, 1, 8, some .nilFunc⟩ := by kernel_rfl
/-- func(uint16, uint16) int -/
theorem row53 : row Try.prog 53 = ⟨.func, 1, 8, some .nilFunc⟩ := by kernel_rfl
/-- func(map[uint16]int, func(uint16, int) bool) -/
theorem row54 : row Try.prog 54 = ⟨.func, 1, 8, some .nilFunc⟩ := by kernel_rfl
/-- func(uint16, int) bool -/
theorem row55 : row Try.prog 55 = ⟨.func, 1, 8, some .nilFunc⟩ := by kernel_rfl
/-- int16 -/
theorem row56 : row Try.prog 56 = ⟨.int .i16, 1, 2, some (.int .i16 0)⟩ := by kernel_rfl
/-- func() string -/
theorem row57 : row Try.prog 57 = ⟨.func, 1, 8, some .nilFunc⟩ := by kernel_rfl
/-- struct { _interface *abi.Type; concrete *abi.Type; asserted *abi.Type; missingMethod string } -/
theorem row58 : row Try.prog 58 = ⟨.struct [(0, 17), (1, 17), (2, 17), (3, 9)], 4, 40, some (.agg #[(.pointer none), (.pointer none), (.pointer none), (.string ⟨#[]⟩)])⟩ := by kernel_rfl
/-- runtime.TypeAssertionError -/
theorem row59 : row Try.prog 59 = ⟨.struct [(0, 17), (1, 17), (2, 17), (3, 9)], 4, 40, some (.agg #[(.pointer none), (.pointer none), (.pointer none), (.string ⟨#[]⟩)])⟩ := by kernel_rfl
/-- [0]*runtime.PanicNilError -/
theorem row60 : row Try.prog 60 = ⟨.array 0 16, 0, 0, some (.agg #[])⟩ := by kernel_rfl
/-- struct { _ [0]*runtime.PanicNilError } -/
theorem row61 : row Try.prog 61 = ⟨.struct [(0, 60)], 0, 0, some (.agg #[])⟩ := by kernel_rfl
/-- runtime.PanicNilError -/
theorem row62 : row Try.prog 62 = ⟨.struct [(0, 60)], 0, 0, some (.agg #[])⟩ := by kernel_rfl
/-- uint32 -/
theorem row63 : row Try.prog 63 = ⟨.int .u32, 1, 4, some (.int .u32 0)⟩ := by kernel_rfl
/-- abi.TFlag -/
theorem row64 : row Try.prog 64 = ⟨.int .u8, 1, 1, some (.int .u8 0)⟩ := by kernel_rfl
/-- abi.Kind -/
theorem row65 : row Try.prog 65 = ⟨.int .u8, 1, 1, some (.int .u8 0)⟩ := by kernel_rfl
/-- func(unsafe.Pointer, unsafe.Pointer) bool -/
theorem row66 : row Try.prog 66 = ⟨.func, 1, 8, some .nilFunc⟩ := by kernel_rfl
/-- *uint8 -/
theorem row67 : row Try.prog 67 = ⟨.ptr 5, 1, 8, some (.pointer none)⟩ := by kernel_rfl
/-- abi.NameOff -/
theorem row68 : row Try.prog 68 = ⟨.int .i32, 1, 4, some (.int .i32 0)⟩ := by kernel_rfl
/-- abi.TypeOff -/
theorem row69 : row Try.prog 69 = ⟨.int .i32, 1, 4, some (.int .i32 0)⟩ := by kernel_rfl
/-- struct { Size_ uintptr; PtrBytes uintptr; Hash uint32; TFlag abi.TFlag; Align_ uint8; FieldAlign_ uint8; Kind_ abi.Kind; Equal func(unsafe.Pointer, unsafe.Pointer) bool; GCData *uint8; Str abi.NameOff; PtrToThis abi.TypeOff } -/
theorem row70 : row Try.prog 70 = ⟨.struct [(0, 12), (1, 12), (2, 63), (3, 64), (4, 5), (5, 5), (6, 65), (7, 66), (8, 67), (9, 68), (10, 69)], 11, 48, some (.agg #[(.int .u64 0), (.int .u64 0), (.int .u32 0), (.int .u8 0), (.int .u8 0), (.int .u8 0), (.int .u8 0), .nilFunc, (.pointer none), (.int .i32 0), (.int .i32 0)])⟩ := by kernel_rfl
/-- abi.Type -/
theorem row71 : row Try.prog 71 = ⟨.struct [(0, 12), (1, 12), (2, 63), (3, 64), (4, 5), (5, 5), (6, 65), (7, 66), (8, 67), (9, 68), (10, 69)], 11, 48, some (.agg #[(.int .u64 0), (.int .u64 0), (.int .u32 0), (.int .u8 0), (.int .u8 0), (.int .u8 0), (.int .u8 0), .nilFunc, (.pointer none), (.int .i32 0), (.int .i32 0)])⟩ := by kernel_rfl
/-- unsafe.Pointer -/
theorem row72 : row Try.prog 72 = ⟨.other, 1, 8, some (.pointer none)⟩ := by kernel_rfl
/-- embrasure/embrasurelaw15.BindOld -/
theorem ent3 : Ent Try.prog 3 := ⟨Try.f3, Try.func3, by kernel_rfl, by kernel_rfl⟩
/-- embrasure/embrasurelaw15.BindOnce -/
theorem ent4 : Ent Try.prog 4 := ⟨Try.f4, Try.func4, by kernel_rfl, by kernel_rfl⟩
/-- embrasure/embrasurelaw15.BindTwice -/
theorem ent5 : Ent Try.prog 5 := ⟨Try.f5, Try.func5, by kernel_rfl, by kernel_rfl⟩
/-- embrasure/embrasurelaw15.BindApart -/
theorem ent6 : Ent Try.prog 6 := ⟨Try.f6, Try.func6, by kernel_rfl, by kernel_rfl⟩
/-- embrasure/embrasurelaw15.shown -/
theorem ent7 : Ent Try.prog 7 := ⟨Try.f7, Try.func7, by kernel_rfl, by kernel_rfl⟩
/-- embrasure/bind.New -/
theorem ent8 : Ent Try.prog 8 := ⟨Try.f8, Try.func8, by kernel_rfl, by kernel_rfl⟩
/-- (*embrasure/bind.Table).Bind -/
theorem ent9 : Ent Try.prog 9 := ⟨Try.f9, Try.func9, by kernel_rfl, by kernel_rfl⟩
/-- (*embrasure/bind.Table).Len -/
theorem ent10 : Ent Try.prog 10 := ⟨Try.f10, Try.func10, by kernel_rfl, by kernel_rfl⟩
/-- (*embrasure/bind.Table).Ask -/
theorem ent11 : Ent Try.prog 11 := ⟨Try.f11, Try.func11, by kernel_rfl, by kernel_rfl⟩
/-- (*embrasure/bind.Table).Deny -/
theorem ent12 : Ent Try.prog 12 := ⟨Try.f12, Try.func12, by kernel_rfl, by kernel_rfl⟩
/-- embrasure/embrasurelaw15.does -/
theorem ent13 : Ent Try.prog 13 := ⟨Try.f13, Try.func13, by kernel_rfl, by kernel_rfl⟩
/-- (*embrasure/bind.Table).put -/
theorem ent14 : Ent Try.prog 14 := ⟨Try.f14, Try.func14, by kernel_rfl, by kernel_rfl⟩
/-- (*embrasure/bind.client).reach -/
theorem ent15 : Ent Try.prog 15 := ⟨Try.f15, Try.func15, by kernel_rfl, by kernel_rfl⟩
/-- (*embrasure/bind.Table).Forget -/
theorem ent16 : Ent Try.prog 16 := ⟨Try.f16, Try.func16, by kernel_rfl, by kernel_rfl⟩
/-- embrasure/sequence.Newer -/
theorem ent17 : Ent Try.prog 17 := ⟨Try.f17, Try.func17, by kernel_rfl, by kernel_rfl⟩
/-- (*embrasure/bind.Table).drop -/
theorem ent18 : Ent Try.prog 18 := ⟨Try.f18, Try.func18, by kernel_rfl, by kernel_rfl⟩
/-- (*embrasure/bind.Table).put$1 -/
theorem ent19 : Ent Try.prog 19 := ⟨Try.f19, Try.func19, by kernel_rfl, by kernel_rfl⟩
/-- embrasure/sequence.Dist -/
theorem ent20 : Ent Try.prog 20 := ⟨Try.f20, Try.func20, by kernel_rfl, by kernel_rfl⟩
/-- (*embrasure/bind.Table).Forget$1 -/
theorem ent21 : Ent Try.prog 21 := ⟨Try.f21, Try.func21, by kernel_rfl, by kernel_rfl⟩
/-- maps.DeleteFunc[map[uint16]int,uint16,int] -/
theorem ent22 : Ent Try.prog 22 := ⟨Try.f22, Try.func22, by kernel_rfl, by kernel_rfl⟩
/-- (*embrasure/bind.Table).drop$1 -/
theorem ent23 : Ent Try.prog 23 := ⟨Try.f23, Try.func23, by kernel_rfl, by kernel_rfl⟩
end Go.Proofs.Ytfdbojnikoonbaa
