/- The conditions of functions, written out: printed by a small program (VCDev.lean, vcgen.sh).  Conditions: none. -/
import Derived.Test.YtfekkdmnboccfaaTab
namespace Go.Proofs.Ytfekkdmnboccfaa
set_option linter.unusedSimpArgs false
set_option linter.unusedVariables false
open Go VC
theorem vc26 (a0 : Int) (a1 : Int) (a20 : Int) (a21 : Int) (a22 : Int) (a23 : Int) (a24 : Int) (a3 : Int) (a4 : Int) (a5 : Int) (a60 : Int) (a61 : Int) (a62 : Int) (a7 : Int) (a80 : Int) (a81 : Int) (a82 : Int) (a90 : Int) (a91 : Int) (a92 : Int) (a10 : Int) (a11 : Int) (a12p : Option Addr) (a12n : Nat) (a12c : Nat) (b0 : Int) (b1 : Int) (b20 : Int) (b21 : Int) (b22 : Int) (b23 : Int) (b24 : Int) (b3 : Int) (b4 : Int) (b5 : Int) (b60 : Int) (b61 : Int) (b62 : Int) (b7 : Int) (b80 : Int) (b81 : Int) (b82 : Int) (b90 : Int) (b91 : Int) (b92 : Int) (b10 : Int) (b11 : Int) (b12p : Option Addr) (b12n : Nat) (b12c : Nat) (w : World) (R : Value → World → Prop)
  (h : allocC w
  (Obj.cells
    #[Value.int IntKind.i64 a0, Value.int IntKind.u16 a1, Value.int IntKind.u16 a20, Value.int IntKind.u8 a21, Value.int IntKind.i8 a22, Value.int IntKind.i8 a23,
      Value.int IntKind.i64 a24, Value.int IntKind.u16 a3, Value.int IntKind.i64 a4, Value.int IntKind.i64 a5, Value.int IntKind.i64 a60, Value.int IntKind.i64 a61,
      Value.int IntKind.i64 a62, Value.int IntKind.i64 a7, Value.int IntKind.i64 a80, Value.int IntKind.i64 a81, Value.int IntKind.i64 a82, Value.int IntKind.i64 a90,
      Value.int IntKind.i64 a91, Value.int IntKind.i64 a92, Value.int IntKind.u32 a10, Value.int IntKind.u32 a11, Value.slice a12p a12n a12c]
    (40 : Nat))
  fun n0 w1 =>
  allocC w1
    (Obj.cells
      #[Value.int IntKind.i64 b0, Value.int IntKind.u16 b1, Value.int IntKind.u16 b20, Value.int IntKind.u8 b21, Value.int IntKind.i8 b22, Value.int IntKind.i8 b23,
        Value.int IntKind.i64 b24, Value.int IntKind.u16 b3, Value.int IntKind.i64 b4, Value.int IntKind.i64 b5, Value.int IntKind.i64 b60, Value.int IntKind.i64 b61,
        Value.int IntKind.i64 b62, Value.int IntKind.i64 b7, Value.int IntKind.i64 b80, Value.int IntKind.i64 b81, Value.int IntKind.i64 b82, Value.int IntKind.i64 b90,
        Value.int IntKind.i64 b91, Value.int IntKind.i64 b92, Value.int IntKind.u32 b10, Value.int IntKind.u32 b11, Value.slice b12p b12n b12c]
      (40 : Nat))
    fun n2 w3 =>
    rd (World.cell? w3 { block := n0, off := (0 : Nat) : Addr }) fun v4 =>
      isK IntKind.i64 v4 fun i5 =>
        rd (World.cell? w3 { block := n2, off := (0 : Nat) : Addr }) fun v6 =>
          isK IntKind.i64 v6 fun i7 =>
            br (decide (i5 = i7))
              (rd (World.cell? w3 { block := n0, off := (1 : Nat) : Addr }) fun v8 =>
                isK IntKind.u16 v8 fun i9 =>
                  rd (World.cell? w3 { block := n2, off := (1 : Nat) : Addr }) fun v10 =>
                    isK IntKind.u16 v10 fun i11 =>
                      br (decide (i9 = i11))
                        (rd (cellsAt w3 { block := n0, off := (2 : Nat) : Addr } (5 : Nat)) fun l12 =>
                          rd (cellsAt w3 { block := n2, off := (2 : Nat) : Addr } (5 : Nat)) fun l13 =>
                            rd (Option.map Value.bool (eqL [(0 : Nat), (1 : Nat), (2 : Nat), (3 : Nat), (4 : Nat)] l12 l13)) fun v14 =>
                              isB v14 fun t15 =>
                                br t15
                                  (rd (World.cell? w3 { block := n0, off := (7 : Nat) : Addr }) fun v16 =>
                                    isK IntKind.u16 v16 fun i17 =>
                                      rd (World.cell? w3 { block := n2, off := (7 : Nat) : Addr }) fun v18 =>
                                        isK IntKind.u16 v18 fun i19 =>
                                          br (decide (i17 = i19))
                                            (rd (World.cell? w3 { block := n0, off := (8 : Nat) : Addr }) fun v20 =>
                                              isK IntKind.i64 v20 fun i21 =>
                                                rd (World.cell? w3 { block := n2, off := (8 : Nat) : Addr }) fun v22 =>
                                                  isK IntKind.i64 v22 fun i23 =>
                                                    br (decide (i21 = i23))
                                                      (rd (World.cell? w3 { block := n0, off := (9 : Nat) : Addr }) fun v24 =>
                                                        isK IntKind.i64 v24 fun i25 =>
                                                          rd (World.cell? w3 { block := n2, off := (9 : Nat) : Addr }) fun v26 =>
                                                            isK IntKind.i64 v26 fun i27 =>
                                                              br (decide (i25 = i27))
                                                                (rd (cellsAt w3 { block := n0, off := (10 : Nat) : Addr } (3 : Nat)) fun l28 =>
                                                                  rd (cellsAt w3 { block := n2, off := (10 : Nat) : Addr } (3 : Nat)) fun l29 =>
                                                                    rd (Option.map Value.bool (eqL [(0 : Nat), (1 : Nat), (2 : Nat)] l28 l29)) fun v30 =>
                                                                      isB v30 fun t31 =>
                                                                        br t31
                                                                          (rd (World.cell? w3 { block := n0, off := (13 : Nat) : Addr }) fun v32 =>
                                                                            isK IntKind.i64 v32 fun i33 =>
                                                                              rd (World.cell? w3 { block := n2, off := (13 : Nat) : Addr }) fun v34 =>
                                                                                isK IntKind.i64 v34 fun i35 =>
                                                                                  br (decide (i33 = i35))
                                                                                    (rd (cellsAt w3 { block := n0, off := (14 : Nat) : Addr } (3 : Nat)) fun l36 =>
                                                                                      rd (cellsAt w3 { block := n2, off := (14 : Nat) : Addr } (3 : Nat)) fun l37 =>
                                                                                        rd (Option.map Value.bool (eqL [(0 : Nat), (1 : Nat), (2 : Nat)] l36 l37)) fun v38 =>
                                                                                          isB v38 fun t39 =>
                                                                                            br t39
                                                                                              (rd (cellsAt w3 { block := n0, off := (17 : Nat) : Addr } (3 : Nat)) fun l40 =>
                                                                                                rd (cellsAt w3 { block := n2, off := (17 : Nat) : Addr } (3 : Nat)) fun l41 =>
                                                                                                  rd (Option.map Value.bool (eqL [(0 : Nat), (1 : Nat), (2 : Nat)] l40 l41))
                                                                                                    fun v42 =>
                                                                                                    isB v42 fun t43 =>
                                                                                                      br t43
                                                                                                        (rd (World.cell? w3 { block := n0, off := (20 : Nat) : Addr }) fun v44 =>
                                                                                                          isK IntKind.u32 v44 fun i45 =>
                                                                                                            rd (World.cell? w3 { block := n2, off := (20 : Nat) : Addr }) fun v46 =>
                                                                                                              isK IntKind.u32 v46 fun i47 =>
                                                                                                                br (decide (i45 = i47))
                                                                                                                  (rd (World.cell? w3 { block := n0, off := (21 : Nat) : Addr })
                                                                                                                    fun v48 =>
                                                                                                                    isK IntKind.u32 v48 fun i49 =>
                                                                                                                      rd (World.cell? w3 { block := n2, off := (21 : Nat) : Addr })
                                                                                                                        fun v50 =>
                                                                                                                        isK IntKind.u32 v50 fun i51 =>
                                                                                                                          br (decide (i49 = i51))
                                                                                                                            (rd
                                                                                                                              (World.cell? w3
                                                                                                                                { block := n0, off := (22 : Nat) : Addr })
                                                                                                                              fun v52 =>
                                                                                                                              isSl v52 fun o53 n54 n55 =>
                                                                                                                                rd
                                                                                                                                  (World.cell? w3
                                                                                                                                    { block := n2, off := (22 : Nat) : Addr })
                                                                                                                                  fun v56 =>
                                                                                                                                  isSl v56 fun o57 n58 n59 =>
                                                                                                                                    callV Try.prog (50 : Nat)
                                                                                                                                      [Value.slice o53 n54 n55,
                                                                                                                                        Value.slice o57 n58 n59]
                                                                                                                                      w3 fun v60 w61 =>
                                                                                                                                      isB v60 fun t62 => R (Value.bool t62) w61)
                                                                                                                            (R (Value.bool false) w3))
                                                                                                                  (R (Value.bool false) w3))
                                                                                                        (R (Value.bool false) w3))
                                                                                              (R (Value.bool false) w3))
                                                                                    (R (Value.bool false) w3))
                                                                          (R (Value.bool false) w3))
                                                                (R (Value.bool false) w3))
                                                      (R (Value.bool false) w3))
                                            (R (Value.bool false) w3))
                                  (R (Value.bool false) w3))
                        (R (Value.bool false) w3))
              (R (Value.bool false) w3)) :
  callV Try.prog 26 [Value.agg #[Value.int IntKind.i64 a0, Value.int IntKind.u16 a1, Value.int IntKind.u16 a20, Value.int IntKind.u8 a21, Value.int IntKind.i8 a22, Value.int IntKind.i8 a23, Value.int IntKind.i64 a24, Value.int IntKind.u16 a3, Value.int IntKind.i64 a4, Value.int IntKind.i64 a5, Value.int IntKind.i64 a60, Value.int IntKind.i64 a61, Value.int IntKind.i64 a62, Value.int IntKind.i64 a7, Value.int IntKind.i64 a80, Value.int IntKind.i64 a81, Value.int IntKind.i64 a82, Value.int IntKind.i64 a90, Value.int IntKind.i64 a91, Value.int IntKind.i64 a92, Value.int IntKind.u32 a10, Value.int IntKind.u32 a11, Value.slice a12p a12n a12c],
  Value.agg #[Value.int IntKind.i64 b0, Value.int IntKind.u16 b1, Value.int IntKind.u16 b20, Value.int IntKind.u8 b21, Value.int IntKind.i8 b22, Value.int IntKind.i8 b23, Value.int IntKind.i64 b24, Value.int IntKind.u16 b3, Value.int IntKind.i64 b4, Value.int IntKind.i64 b5, Value.int IntKind.i64 b60, Value.int IntKind.i64 b61, Value.int IntKind.i64 b62, Value.int IntKind.i64 b7, Value.int IntKind.i64 b80, Value.int IntKind.i64 b81, Value.int IntKind.i64 b82, Value.int IntKind.i64 b90, Value.int IntKind.i64 b91, Value.int IntKind.i64 b92, Value.int IntKind.u32 b10, Value.int IntKind.u32 b11, Value.slice b12p b12n b12c]] w R :=
  vc_of hm noHints Try.func26 ent26 (by kernel_rfl) h

end Go.Proofs.Ytfekkdmnboccfaa
