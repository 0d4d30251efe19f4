/- The conditions of functions, written out: printed by a small program (VCDev.lean, vcgen.sh).  Conditions: none. -/
import Derived.Test.YtfekkdmnboccfaaTab
namespace Go.Proofs.Ytfekkdmnboccfaa
set_option linter.unusedSimpArgs false
set_option linter.unusedVariables false
open Go VC
theorem vc27 (a0 : Int) (a1 : Int) (a20 : Int) (a21 : Int) (a22 : Int) (a23 : Int) (a24 : Int) (a3 : Int) (a4 : Int) (a5 : Int) (a60 : Int) (a61 : Int) (a62 : Int) (a7 : Int) (a80 : Int) (a81 : Int) (a82 : Int) (a90 : Int) (a91 : Int) (a92 : Int) (a10 : Int) (a11 : Int) (a12p : Option Addr) (a12n : Nat) (a12c : Nat) (b0 : Int) (b1 : Int) (b20 : Int) (b21 : Int) (b22 : Int) (b23 : Int) (b24 : Int) (b3 : Int) (b4 : Int) (b5 : Int) (b60 : Int) (b61 : Int) (b62 : Int) (b7 : Int) (b80 : Int) (b81 : Int) (b82 : Int) (b90 : Int) (b91 : Int) (b92 : Int) (b10 : Int) (b11 : Int) (b12p : Option Addr) (b12n : Nat) (b12c : Nat) (w : World) (R : Value → World → Prop)
  (h : cutC
  (fun u0 =>
    allocC w
      (Obj.cells
        #[Value.int IntKind.i64 a0, Value.int IntKind.u16 a1, Value.int IntKind.u16 a20, Value.int IntKind.u8 a21, Value.int IntKind.i8 a22, Value.int IntKind.i8 a23,
          Value.int IntKind.i64 a24, Value.int IntKind.u16 a3, Value.int IntKind.i64 a4, Value.int IntKind.i64 a5, Value.int IntKind.i64 a60, Value.int IntKind.i64 a61,
          Value.int IntKind.i64 a62, Value.int IntKind.i64 a7, Value.int IntKind.i64 a80, Value.int IntKind.i64 a81, Value.int IntKind.i64 a82, Value.int IntKind.i64 a90,
          Value.int IntKind.i64 a91, Value.int IntKind.i64 a92, Value.int IntKind.u32 a10, Value.int IntKind.u32 a11, Value.slice a12p a12n a12c]
        (40 : Nat))
      fun n1 w2 =>
      allocC w2
        (Obj.cells
          #[Value.int IntKind.i64 b0, Value.int IntKind.u16 b1, Value.int IntKind.u16 b20, Value.int IntKind.u8 b21, Value.int IntKind.i8 b22, Value.int IntKind.i8 b23,
            Value.int IntKind.i64 b24, Value.int IntKind.u16 b3, Value.int IntKind.i64 b4, Value.int IntKind.i64 b5, Value.int IntKind.i64 b60, Value.int IntKind.i64 b61,
            Value.int IntKind.i64 b62, Value.int IntKind.i64 b7, Value.int IntKind.i64 b80, Value.int IntKind.i64 b81, Value.int IntKind.i64 b82, Value.int IntKind.i64 b90,
            Value.int IntKind.i64 b91, Value.int IntKind.i64 b92, Value.int IntKind.u32 b10, Value.int IntKind.u32 b11, Value.slice b12p b12n b12c]
          (40 : Nat))
        fun n3 w4 =>
        u0 (alist [((2 : Nat), Value.pointer (some { block := n1, off := (0 : Nat) : Addr })), ((3 : Nat), Value.pointer (some { block := n3, off := (0 : Nat) : Addr }))]) w4)
  fun u5 =>
  ∀ (u6 : Nat → Value) (w7 : World),
    u5 (alist [((2 : Nat), u6 (2 : Nat)), ((3 : Nat), u6 (3 : Nat))]) w7 →
      cutC
        (fun u9 =>
          isPtr (u6 (2 : Nat)) fun a10 =>
            rd (World.cell? w7 a10) fun v11 =>
              isK IntKind.i64 v11 fun i12 =>
                isPtr (u6 (3 : Nat)) fun a13 =>
                  rd (World.cell? w7 a13) fun v14 =>
                    isK IntKind.i64 v14 fun i15 =>
                      br (decide (i12 = i15))
                        (isPtr (u6 (2 : Nat)) fun a16 =>
                          rd (World.cell? w7 (Addr.add a16 (1 : Nat))) fun v17 =>
                            isK IntKind.u16 v17 fun i18 =>
                              isPtr (u6 (3 : Nat)) fun a19 =>
                                rd (World.cell? w7 (Addr.add a19 (1 : Nat))) fun v20 =>
                                  isK IntKind.u16 v20 fun i21 =>
                                    br (decide (i18 = i21))
                                      (isPtr (u6 (2 : Nat)) fun a22 =>
                                        rd (cellsAt w7 (Addr.add a22 (2 : Nat)) (5 : Nat)) fun l23 =>
                                          isPtr (u6 (3 : Nat)) fun a24 =>
                                            rd (cellsAt w7 (Addr.add a24 (2 : Nat)) (5 : Nat)) fun l25 =>
                                              rd (Option.map Value.bool (eqL [(0 : Nat), (1 : Nat), (2 : Nat), (3 : Nat), (4 : Nat)] l23 l25)) fun v26 =>
                                                isB v26 fun t27 =>
                                                  br t27
                                                    (isPtr (u6 (2 : Nat)) fun a28 =>
                                                      rd (World.cell? w7 (Addr.add a28 (7 : Nat))) fun v29 =>
                                                        isK IntKind.u16 v29 fun i30 =>
                                                          isPtr (u6 (3 : Nat)) fun a31 =>
                                                            rd (World.cell? w7 (Addr.add a31 (7 : Nat))) fun v32 =>
                                                              isK IntKind.u16 v32 fun i33 =>
                                                                br (decide (i30 = i33))
                                                                  (isPtr (u6 (2 : Nat)) fun a34 =>
                                                                    rd (World.cell? w7 (Addr.add a34 (8 : Nat))) fun v35 =>
                                                                      isK IntKind.i64 v35 fun i36 =>
                                                                        isPtr (u6 (3 : Nat)) fun a37 =>
                                                                          rd (World.cell? w7 (Addr.add a37 (8 : Nat))) fun v38 =>
                                                                            isK IntKind.i64 v38 fun i39 =>
                                                                              br (decide (i36 = i39))
                                                                                (isPtr (u6 (2 : Nat)) fun a40 =>
                                                                                  rd (World.cell? w7 (Addr.add a40 (9 : Nat))) fun v41 =>
                                                                                    isK IntKind.i64 v41 fun i42 =>
                                                                                      isPtr (u6 (3 : Nat)) fun a43 =>
                                                                                        rd (World.cell? w7 (Addr.add a43 (9 : Nat))) fun v44 =>
                                                                                          isK IntKind.i64 v44 fun i45 =>
                                                                                            u9 (alist [((5 : Nat), Value.bool (decide (i42 = i45)))]) w7)
                                                                                (u9 (alist [((5 : Nat), Value.bool false)]) w7))
                                                                  (u9 (alist [((5 : Nat), Value.bool false)]) w7))
                                                    (u9 (alist [((5 : Nat), Value.bool false)]) w7))
                                      (u9 (alist [((5 : Nat), Value.bool false)]) w7))
                        (u9 (alist [((5 : Nat), Value.bool false)]) w7))
        fun u46 =>
        ∀ (u47 : Nat → Value) (w48 : World),
          u46 (alist [((5 : Nat), u47 (5 : Nat))]) w48 →
            isPtr (u6 (2 : Nat)) fun a50 =>
              rd (cellsAt w48 (Addr.add a50 (10 : Nat)) (3 : Nat)) fun l51 =>
                isPtr (u6 (3 : Nat)) fun a52 =>
                  rd (cellsAt w48 (Addr.add a52 (10 : Nat)) (3 : Nat)) fun l53 =>
                    rd (Option.map Value.bool (eqL [(0 : Nat), (1 : Nat), (2 : Nat)] l51 l53)) fun v54 =>
                      isB v54 fun t55 =>
                        br t55
                          (isPtr (u6 (2 : Nat)) fun a56 =>
                            rd (World.cell? w48 (Addr.add a56 (13 : Nat))) fun v57 =>
                              isK IntKind.i64 v57 fun i58 =>
                                isPtr (u6 (3 : Nat)) fun a59 =>
                                  rd (World.cell? w48 (Addr.add a59 (13 : Nat))) fun v60 =>
                                    isK IntKind.i64 v60 fun i61 =>
                                      br (decide (i58 = i61))
                                        (isPtr (u6 (2 : Nat)) fun a62 =>
                                          rd (cellsAt w48 (Addr.add a62 (14 : Nat)) (3 : Nat)) fun l63 =>
                                            isPtr (u6 (3 : Nat)) fun a64 =>
                                              rd (cellsAt w48 (Addr.add a64 (14 : Nat)) (3 : Nat)) fun l65 =>
                                                rd (Option.map Value.bool (eqL [(0 : Nat), (1 : Nat), (2 : Nat)] l63 l65)) fun v66 =>
                                                  isB v66 fun t67 =>
                                                    br t67
                                                      (isPtr (u6 (2 : Nat)) fun a68 =>
                                                        rd (cellsAt w48 (Addr.add a68 (17 : Nat)) (3 : Nat)) fun l69 =>
                                                          isPtr (u6 (3 : Nat)) fun a70 =>
                                                            rd (cellsAt w48 (Addr.add a70 (17 : Nat)) (3 : Nat)) fun l71 =>
                                                              rd (Option.map Value.bool (eqL [(0 : Nat), (1 : Nat), (2 : Nat)] l69 l71)) fun v72 =>
                                                                isB v72 fun t73 =>
                                                                  br t73
                                                                    (isPtr (u6 (2 : Nat)) fun a74 =>
                                                                      rd (World.cell? w48 (Addr.add a74 (20 : Nat))) fun v75 =>
                                                                        isK IntKind.u32 v75 fun i76 =>
                                                                          isPtr (u6 (3 : Nat)) fun a77 =>
                                                                            rd (World.cell? w48 (Addr.add a77 (20 : Nat))) fun v78 =>
                                                                              isK IntKind.u32 v78 fun i79 =>
                                                                                br (decide (i76 = i79))
                                                                                  (isPtr (u6 (2 : Nat)) fun a80 =>
                                                                                    rd (World.cell? w48 (Addr.add a80 (21 : Nat))) fun v81 =>
                                                                                      isK IntKind.u32 v81 fun i82 =>
                                                                                        isPtr (u6 (3 : Nat)) fun a83 =>
                                                                                          rd (World.cell? w48 (Addr.add a83 (21 : Nat))) fun v84 =>
                                                                                            isK IntKind.u32 v84 fun i85 =>
                                                                                              isB (u47 (5 : Nat)) fun t86 =>
                                                                                                br t86
                                                                                                  (br (decide (i82 = i85))
                                                                                                    (isPtr (u6 (2 : Nat)) fun a87 =>
                                                                                                      rd (World.cell? w48 (Addr.add a87 (22 : Nat))) fun v88 =>
                                                                                                        isSl v88 fun o89 n90 n91 =>
                                                                                                          runs Try.prog (convert (25 : Nat) (9 : Nat) (Value.slice o89 n90 n91)) w48
                                                                                                            fun v92 w93 =>
                                                                                                            isStr v92 fun x94 =>
                                                                                                              isPtr (u6 (3 : Nat)) fun a95 =>
                                                                                                                rd (World.cell? w93 (Addr.add a95 (22 : Nat))) fun v96 =>
                                                                                                                  isSl v96 fun o97 n98 n99 =>
                                                                                                                    runs Try.prog
                                                                                                                      (convert (25 : Nat) (9 : Nat) (Value.slice o97 n98 n99)) w93
                                                                                                                      fun v100 w101 =>
                                                                                                                      isStr v100 fun x102 =>
                                                                                                                        R (Value.bool (decide (x94 = x102))) w101)
                                                                                                    (R (Value.bool false) w48))
                                                                                                  (R (Value.bool false) w48))
                                                                                  (isB (u47 (5 : Nat)) fun t103 => br t103 (R (Value.bool false) w48) (R (Value.bool false) w48)))
                                                                    (isB (u47 (5 : Nat)) fun t104 => br t104 (R (Value.bool false) w48) (R (Value.bool false) w48)))
                                                      (isB (u47 (5 : Nat)) fun t105 => br t105 (R (Value.bool false) w48) (R (Value.bool false) w48)))
                                        (isB (u47 (5 : Nat)) fun t106 => br t106 (R (Value.bool false) w48) (R (Value.bool false) w48)))
                          (isB (u47 (5 : Nat)) fun t107 => br t107 (R (Value.bool false) w48) (R (Value.bool false) w48))) :
  callV Try.prog 27 [Value.agg #[Value.int IntKind.i64 a0, Value.int IntKind.u16 a1, Value.int IntKind.u16 a20, Value.int IntKind.u8 a21, Value.int IntKind.i8 a22, Value.int IntKind.i8 a23, Value.int IntKind.i64 a24, Value.int IntKind.u16 a3, Value.int IntKind.i64 a4, Value.int IntKind.i64 a5, Value.int IntKind.i64 a60, Value.int IntKind.i64 a61, Value.int IntKind.i64 a62, Value.int IntKind.i64 a7, Value.int IntKind.i64 a80, Value.int IntKind.i64 a81, Value.int IntKind.i64 a82, Value.int IntKind.i64 a90, Value.int IntKind.i64 a91, Value.int IntKind.i64 a92, Value.int IntKind.u32 a10, Value.int IntKind.u32 a11, Value.slice a12p a12n a12c],
  Value.agg #[Value.int IntKind.i64 b0, Value.int IntKind.u16 b1, Value.int IntKind.u16 b20, Value.int IntKind.u8 b21, Value.int IntKind.i8 b22, Value.int IntKind.i8 b23, Value.int IntKind.i64 b24, Value.int IntKind.u16 b3, Value.int IntKind.i64 b4, Value.int IntKind.i64 b5, Value.int IntKind.i64 b60, Value.int IntKind.i64 b61, Value.int IntKind.i64 b62, Value.int IntKind.i64 b7, Value.int IntKind.i64 b80, Value.int IntKind.i64 b81, Value.int IntKind.i64 b82, Value.int IntKind.i64 b90, Value.int IntKind.i64 b91, Value.int IntKind.i64 b92, Value.int IntKind.u32 b10, Value.int IntKind.u32 b11, Value.slice b12p b12n b12c]] w R :=
  vc_of hm ⟨fun n => match n with | 1 => true | 2 => true | _ => false, fun _ => .done, fun n => match n with | 1 => [2, 3] | 2 => [5] | _ => []⟩ Try.func27 ent27 (by kernel_rfl) h

end Go.Proofs.Ytfekkdmnboccfaa
