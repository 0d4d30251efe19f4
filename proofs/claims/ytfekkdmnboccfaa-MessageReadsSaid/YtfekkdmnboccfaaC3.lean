/- The conditions of functions, written out: printed by a small program (VCDev.lean, vcgen.sh).  Conditions: none. -/
import Derived.Test.YtfekkdmnboccfaaTab
namespace Go.Proofs.Ytfekkdmnboccfaa
set_option linter.unusedSimpArgs false
set_option linter.unusedVariables false
open Go VC
theorem vc13 (ap : Option Addr) (an : Nat) (ac : Nat) (w : World) (R : Value → World → Prop)
  (h : loopC (alist [((3 : Nat), Value.slice none (0 : Nat) (0 : Nat)), ((4 : Nat), Value.int IntKind.i64 (0 : Int))]) w fun u0 u1 =>
  ∀ (u2 : Nat → Value) (w3 : World),
    u0 (alist [((3 : Nat), u2 (3 : Nat)), ((4 : Nat), u2 (4 : Nat))]) w3 →
      isK IntKind.i64 (u2 (4 : Nat)) fun i5 =>
        br (decide (i5 < (↑an : Int)))
          (isK IntKind.i64 (u2 (4 : Nat)) fun i6 =>
            br (decide (i6 < (20 : Int)))
              (isK IntKind.i64 (u2 (4 : Nat)) fun i7 =>
                rd ap fun a8 =>
                  ((0 : Int) ≤ i7 ∧ i7 < (↑an : Int)) ∧
                    rd (cellsAt w3 (Addr.add a8 (Int.toNat i7 * (23 : Nat))) (23 : Nat)) fun l9 =>
                      allocC w3
                        (Obj.cells
                          #[Value.int IntKind.i64 (0 : Int), Value.int IntKind.u16 (0 : Int), Value.int IntKind.u16 (0 : Int), Value.int IntKind.u8 (0 : Int),
                            Value.int IntKind.i8 (0 : Int), Value.int IntKind.i8 (0 : Int), Value.int IntKind.i64 (0 : Int), Value.int IntKind.u16 (0 : Int),
                            Value.int IntKind.i64 (0 : Int), Value.int IntKind.i64 (0 : Int), Value.int IntKind.i64 (0 : Int), Value.int IntKind.i64 (0 : Int),
                            Value.int IntKind.i64 (0 : Int), Value.int IntKind.i64 (0 : Int), Value.int IntKind.i64 (0 : Int), Value.int IntKind.i64 (0 : Int),
                            Value.int IntKind.i64 (0 : Int), Value.int IntKind.i64 (0 : Int), Value.int IntKind.i64 (0 : Int), Value.int IntKind.i64 (0 : Int),
                            Value.int IntKind.u32 (0 : Int), Value.int IntKind.u32 (0 : Int), Value.slice none (0 : Nat) (0 : Nat)]
                          (40 : Nat))
                        fun n10 w11 =>
                        rd (gd (List.length l9 == (23 : Nat))) fun _x =>
                          stC w11 { block := n10, off := (0 : Nat) : Addr } l9 fun w12 =>
                            rd (World.cell? w12 { block := n10, off := (22 : Nat) : Addr }) fun v13 =>
                              isSl v13 fun o14 n15 n16 =>
                                rd (World.cell? w12 { block := n10, off := (22 : Nat) : Addr }) fun v17 =>
                                  isSl v17 fun o18 n19 n20 =>
                                    runs Try.prog (Instr.sliceAt (25 : Nat) (Value.slice o14 n15 n16) none (some (Value.int IntKind.i64 (min (↑n19 : Int) (1100 : Int)))) none) w12
                                      fun v21 w22 =>
                                      isSl v21 fun o23 n24 n25 =>
                                        stC w22 { block := n10, off := (22 : Nat) : Addr } [Value.slice o23 n24 n25] fun w26 =>
                                          isSl (u2 (3 : Nat)) fun o27 n28 n29 =>
                                            rd (cellsAt w26 { block := n10, off := (0 : Nat) : Addr } (23 : Nat)) fun l30 =>
                                              runs Try.prog (Instr.buildSlice (22 : Nat) (1 : Nat) #[((0 : Nat), Value.agg (List.toArray l30))]) w26 fun v31 w32 =>
                                                isSl v31 fun o33 n34 n35 =>
                                                  runs Try.prog (Builtin.append_ #[(22 : Nat), (22 : Nat)] (22 : Nat) #[Value.slice o27 n28 n29, Value.slice o33 n34 n35]) w32
                                                    fun v36 w37 =>
                                                    isSl v36 fun o38 n39 n40 =>
                                                      isK IntKind.i64 (u2 (4 : Nat)) fun i41 =>
                                                        again u0 u1
                                                          (alist
                                                            [((3 : Nat), Value.slice o38 n39 n40), ((4 : Nat), Value.int IntKind.i64 (IntKind.wrap IntKind.i64 (i41 + (1 : Int))))])
                                                          w37 (alist [((3 : Nat), u2 (3 : Nat)), ((4 : Nat), u2 (4 : Nat))]) w3)
              (isSl (u2 (3 : Nat)) fun o42 n43 n44 => R (Value.slice o42 n43 n44) w3))
          (isSl (u2 (3 : Nat)) fun o45 n46 n47 => R (Value.slice o45 n46 n47) w3)) :
  callV Try.prog 13 [Value.slice ap an ac] w R :=
  vc_of hm ⟨fun _ => false, fun _ => .done, fun n => match n with | 3 => [3, 4] | _ => []⟩ Try.func13 ent13 (by kernel_rfl) h

theorem vc14 (ap : Option Addr) (an : Nat) (ac : Nat) (w : World) (R : Value → World → Prop)
  (h : allocC w (Obj.cells #[Value.slice none (0 : Nat) (0 : Nat), Value.int IntKind.i64 (0 : Int), Value.bool false] (58 : Nat)) fun n0 w1 =>
  callV Try.prog (21 : Nat)
    [Value.pointer (some { block := n0, off := (0 : Nat) : Addr }), Value.int IntKind.u64 (IntKind.wrap IntKind.u64 (↑an : Int)), Value.int IntKind.i64 (5 : Int)] w1 fun v2 w3 =>
    loopC (alist [((19 : Nat), Value.int IntKind.i64 (0 : Int))]) w3 fun u4 u5 =>
      ∀ (u6 : Nat → Value) (w7 : World),
        u4 (alist [((19 : Nat), u6 (19 : Nat))]) w7 →
          rd (orO (binV BinOp.lss (u6 (19 : Nat)) (Value.int IntKind.i64 (↑an : Int))) none) fun v9 =>
            isB v9 fun t10 =>
              br t10
                (isInt (u6 (19 : Nat)) fun k11 i12 =>
                  rd ap fun a13 =>
                    ((0 : Int) ≤ i12 ∧ i12 < (↑an : Int)) ∧
                      rd (cellsAt w7 (Addr.add a13 (Int.toNat i12 * (23 : Nat))) (23 : Nat)) fun l14 =>
                        allocC w7
                          (Obj.cells
                            #[Value.int IntKind.i64 (0 : Int), Value.int IntKind.u16 (0 : Int), Value.int IntKind.u16 (0 : Int), Value.int IntKind.u8 (0 : Int),
                              Value.int IntKind.i8 (0 : Int), Value.int IntKind.i8 (0 : Int), Value.int IntKind.i64 (0 : Int), Value.int IntKind.u16 (0 : Int),
                              Value.int IntKind.i64 (0 : Int), Value.int IntKind.i64 (0 : Int), Value.int IntKind.i64 (0 : Int), Value.int IntKind.i64 (0 : Int),
                              Value.int IntKind.i64 (0 : Int), Value.int IntKind.i64 (0 : Int), Value.int IntKind.i64 (0 : Int), Value.int IntKind.i64 (0 : Int),
                              Value.int IntKind.i64 (0 : Int), Value.int IntKind.i64 (0 : Int), Value.int IntKind.i64 (0 : Int), Value.int IntKind.i64 (0 : Int),
                              Value.int IntKind.u32 (0 : Int), Value.int IntKind.u32 (0 : Int), Value.slice none (0 : Nat) (0 : Nat)]
                            (40 : Nat))
                          fun n15 w16 =>
                          rd (gd (List.length l14 == (23 : Nat))) fun _x =>
                            stC w16 { block := n15, off := (0 : Nat) : Addr } l14 fun w17 =>
                              rd (cellsAt w17 { block := n15, off := (0 : Nat) : Addr } (23 : Nat)) fun l18 =>
                                callV Try.prog (16 : Nat) [Value.agg (List.toArray l18)] w17 fun v19 w20 =>
                                  isB v19 fun t21 =>
                                    br (!t21) (R (Value.tuple #[Value.slice none (0 : Nat) (0 : Nat), Value.int IntKind.i64 (1 : Int)]) w20)
                                      (heldC (World.drew w20) fun u22 =>
                                        (∀ (w23 : World),
                                            u22 w23 →
                                              Value.pointer (some { block := n0, off := (0 : Nat) : Addr }) = Value.pointer (some { block := n0, off := (0 : Nat) : Addr }) ∧
                                                w23 = w23) ∧
                                          (∀ (w25 : World),
                                              u22 w25 →
                                                Value.pointer (some { block := n0, off := (0 : Nat) : Addr }) = Value.pointer (some { block := n0, off := (0 : Nat) : Addr }) ∧
                                                  w25 = w25) ∧
                                            (∀ (w27 : World),
                                                u22 w27 →
                                                  Value.pointer (some { block := n0, off := (0 : Nat) : Addr }) = Value.pointer (some { block := n0, off := (0 : Nat) : Addr }) ∧
                                                    w27 = w27) ∧
                                              (∀ (w29 : World),
                                                  u22 w29 →
                                                    Value.pointer (some { block := n15, off := (0 : Nat) : Addr }) =
                                                        Value.pointer (some { block := n15, off := (0 : Nat) : Addr }) ∧
                                                      w29 = w29) ∧
                                                rd (World.cell? (World.drew w20) { block := n15, off := (0 : Nat) : Addr }) fun v31 =>
                                                  (∀ (w32 : World), u22 w32 → rd (World.cell? w32 { block := n15, off := (0 : Nat) : Addr }) fun v34 => v34 = v31 ∧ w32 = w32) ∧
                                                    isK IntKind.i64 v31 fun i35 =>
                                                      (∀ (w36 : World),
                                                          u22 w36 →
                                                            Value.int IntKind.u64 (IntKind.wrap IntKind.u64 i35) = Value.int IntKind.u64 (IntKind.wrap IntKind.u64 i35) ∧
                                                              w36 = w36) ∧
                                                        callV Try.prog (21 : Nat)
                                                          [Value.pointer (some { block := n0, off := (0 : Nat) : Addr }), Value.int IntKind.u64 (IntKind.wrap IntKind.u64 i35),
                                                            Value.int IntKind.i64 (4 : Int)]
                                                          (World.drew w20) fun v38 w39 =>
                                                          u22 w39 ∧
                                                            callV Try.prog (22 : Nat)
                                                              [Value.iface (54 : Nat) (Value.pointer (some { block := n0, off := (0 : Nat) : Addr })),
                                                                Value.pointer (some { block := n15, off := (0 : Nat) : Addr })]
                                                              w39 fun v40 w41 =>
                                                              isB v40 fun t42 =>
                                                                rd (orO (binV BinOp.add (u6 (19 : Nat)) (Value.int IntKind.i64 (1 : Int))) none) fun v43 =>
                                                                  isK IntKind.i64 v43 fun i44 =>
                                                                    again u4 u5 (alist [((19 : Nat), Value.int IntKind.i64 i44)]) w41 (alist [((19 : Nat), u6 (19 : Nat))]) w7))
                (callV Try.prog (23 : Nat) [Value.pointer (some { block := n0, off := (0 : Nat) : Addr })] w7 fun v45 w46 =>
                  isSl v45 fun o47 n48 n49 =>
                    br (decide ((16 : Int) < (↑an : Int))) (R (Value.tuple #[Value.slice none (0 : Nat) (0 : Nat), Value.int IntKind.i64 (5 : Int)]) w46)
                      (br (decide ((1024 : Int) < (↑n48 : Int))) (R (Value.tuple #[Value.slice none (0 : Nat) (0 : Nat), Value.int IntKind.i64 (5 : Int)]) w46)
                        (R (Value.tuple #[Value.slice o47 n48 n49, Value.int IntKind.i64 (0 : Int)]) w46)))) :
  callV Try.prog 14 [Value.slice ap an ac] w R :=
  vc_of hm ⟨fun _ => false, fun n => match n with | 8 => .take 0 (.take 1 (.take 2 (.take 3 (.take 4 (.take 5 (.one 6 (.done))))))) | _ => .done, fun n => match n with | 4 => [19] | _ => []⟩ Try.func14 ent14 (by kernel_rfl) h

theorem vc16 (a0 : Int) (a1 : Int) (a20 : Int) (a21 : Int) (a22 : Int) (a23 : Int) (a24 : Int) (a3 : Int) (a4 : Int) (a5 : Int) (a60 : Int) (a61 : Int) (a62 : Int) (a7 : Int) (a80 : Int) (a81 : Int) (a82 : Int) (a90 : Int) (a91 : Int) (a92 : Int) (a10 : Int) (a11 : Int) (a12p : Option Addr) (a12n : Nat) (a12c : Nat) (w : World) (R : Value → World → Prop)
  (h : allocC w
  (Obj.cells
    #[Value.int IntKind.i64 a0, Value.int IntKind.u16 a1, Value.int IntKind.u16 a20, Value.int IntKind.u8 a21, Value.int IntKind.i8 a22, Value.int IntKind.i8 a23,
      Value.int IntKind.i64 a24, Value.int IntKind.u16 a3, Value.int IntKind.i64 a4, Value.int IntKind.i64 a5, Value.int IntKind.i64 a60, Value.int IntKind.i64 a61,
      Value.int IntKind.i64 a62, Value.int IntKind.i64 a7, Value.int IntKind.i64 a80, Value.int IntKind.i64 a81, Value.int IntKind.i64 a82, Value.int IntKind.i64 a90,
      Value.int IntKind.i64 a91, Value.int IntKind.i64 a92, Value.int IntKind.u32 a10, Value.int IntKind.u32 a11, Value.slice a12p a12n a12c]
    (40 : Nat))
  fun n0 w1 =>
  rd (cellsAt w1 { block := n0, off := (0 : Nat) : Addr } (23 : Nat)) fun l2 =>
    allocC w1
      (Obj.cells
        #[Value.int IntKind.i64 (0 : Int), Value.int IntKind.u16 (0 : Int), Value.int IntKind.u16 (0 : Int), Value.int IntKind.u8 (0 : Int), Value.int IntKind.i8 (0 : Int),
          Value.int IntKind.i8 (0 : Int), Value.int IntKind.i64 (0 : Int), Value.int IntKind.u16 (0 : Int), Value.int IntKind.i64 (0 : Int), Value.int IntKind.i64 (0 : Int),
          Value.int IntKind.i64 (0 : Int), Value.int IntKind.i64 (0 : Int), Value.int IntKind.i64 (0 : Int), Value.int IntKind.i64 (0 : Int), Value.int IntKind.i64 (0 : Int),
          Value.int IntKind.i64 (0 : Int), Value.int IntKind.i64 (0 : Int), Value.int IntKind.i64 (0 : Int), Value.int IntKind.i64 (0 : Int), Value.int IntKind.i64 (0 : Int),
          Value.int IntKind.u32 (0 : Int), Value.int IntKind.u32 (0 : Int), Value.slice none (0 : Nat) (0 : Nat)]
        (40 : Nat))
      fun n3 w4 =>
      rd (gd (List.length l2 == (23 : Nat))) fun _x =>
        stC w4 { block := n3, off := (0 : Nat) : Addr } l2 fun w5 =>
          allocC w5 (Obj.cells #[Value.slice none (0 : Nat) (0 : Nat), Value.int IntKind.i64 (0 : Int), Value.bool false] (58 : Nat)) fun n6 w7 =>
            callV Try.prog (22 : Nat)
              [Value.iface (54 : Nat) (Value.pointer (some { block := n6, off := (0 : Nat) : Addr })), Value.pointer (some { block := n3, off := (0 : Nat) : Addr })] w7
              fun v8 w9 =>
              isB v8 fun t10 =>
                br (!t10) (R (Value.bool false) w9)
                  (rd (World.cell? w9 { block := n6, off := (2 : Nat) : Addr }) fun v11 =>
                    isB v11 fun t12 =>
                      br t12 (R (Value.bool false) w9)
                        (callV Try.prog (23 : Nat) [Value.pointer (some { block := n6, off := (0 : Nat) : Addr })] w9 fun v13 w14 =>
                          isSl v13 fun o15 n16 n17 =>
                            callV Try.prog (25 : Nat) [Value.slice o15 n16 n17] w14 fun v18 w19 =>
                              isP v18 fun o20 =>
                                allocC w19 (Obj.cells #[Value.pointer o20, Value.int IntKind.i64 (0 : Int)] (69 : Nat)) fun n21 w22 =>
                                  rd (World.cell? w22 { block := n0, off := (0 : Nat) : Addr }) fun v23 =>
                                    isK IntKind.i64 v23 fun i24 =>
                                      allocC w22
                                        (Obj.cells
                                          #[Value.int IntKind.i64 (0 : Int), Value.int IntKind.u16 (0 : Int), Value.int IntKind.u16 (0 : Int), Value.int IntKind.u8 (0 : Int),
                                            Value.int IntKind.i8 (0 : Int), Value.int IntKind.i8 (0 : Int), Value.int IntKind.i64 (0 : Int), Value.int IntKind.u16 (0 : Int),
                                            Value.int IntKind.i64 (0 : Int), Value.int IntKind.i64 (0 : Int), Value.int IntKind.i64 (0 : Int), Value.int IntKind.i64 (0 : Int),
                                            Value.int IntKind.i64 (0 : Int), Value.int IntKind.i64 (0 : Int), Value.int IntKind.i64 (0 : Int), Value.int IntKind.i64 (0 : Int),
                                            Value.int IntKind.i64 (0 : Int), Value.int IntKind.i64 (0 : Int), Value.int IntKind.i64 (0 : Int), Value.int IntKind.i64 (0 : Int),
                                            Value.int IntKind.u32 (0 : Int), Value.int IntKind.u32 (0 : Int), Value.slice none (0 : Nat) (0 : Nat)]
                                          (40 : Nat))
                                        fun n25 w26 =>
                                        stC w26 { block := n25, off := (0 : Nat) : Addr }
                                          [Value.int IntKind.i64 i24, Value.int IntKind.u16 (0 : Int), Value.int IntKind.u16 (0 : Int), Value.int IntKind.u8 (0 : Int),
                                            Value.int IntKind.i8 (0 : Int), Value.int IntKind.i8 (0 : Int), Value.int IntKind.i64 (0 : Int), Value.int IntKind.u16 (0 : Int),
                                            Value.int IntKind.i64 (0 : Int), Value.int IntKind.i64 (0 : Int), Value.int IntKind.i64 (0 : Int), Value.int IntKind.i64 (0 : Int),
                                            Value.int IntKind.i64 (0 : Int), Value.int IntKind.i64 (0 : Int), Value.int IntKind.i64 (0 : Int), Value.int IntKind.i64 (0 : Int),
                                            Value.int IntKind.i64 (0 : Int), Value.int IntKind.i64 (0 : Int), Value.int IntKind.i64 (0 : Int), Value.int IntKind.i64 (0 : Int),
                                            Value.int IntKind.u32 (0 : Int), Value.int IntKind.u32 (0 : Int), Value.slice none (0 : Nat) (0 : Nat)]
                                          fun w27 =>
                                          callV Try.prog (22 : Nat)
                                            [Value.iface (65 : Nat) (Value.pointer (some { block := n21, off := (0 : Nat) : Addr })),
                                              Value.pointer (some { block := n25, off := (0 : Nat) : Addr })]
                                            w27 fun v28 w29 =>
                                            isB v28 fun t30 =>
                                              rd (cellsAt w29 { block := n0, off := (0 : Nat) : Addr } (23 : Nat)) fun l31 =>
                                                rd (cellsAt w29 { block := n25, off := (0 : Nat) : Addr } (23 : Nat)) fun l32 =>
                                                  callV Try.prog (26 : Nat) [Value.agg (List.toArray l31), Value.agg (List.toArray l32)] w29 fun v33 w34 =>
                                                    isB v33 fun t35 => R (Value.bool t35) w34))) :
  callV Try.prog 16 [Value.agg #[Value.int IntKind.i64 a0, Value.int IntKind.u16 a1, Value.int IntKind.u16 a20, Value.int IntKind.u8 a21, Value.int IntKind.i8 a22, Value.int IntKind.i8 a23, Value.int IntKind.i64 a24, Value.int IntKind.u16 a3, Value.int IntKind.i64 a4, Value.int IntKind.i64 a5, Value.int IntKind.i64 a60, Value.int IntKind.i64 a61, Value.int IntKind.i64 a62, Value.int IntKind.i64 a7, Value.int IntKind.i64 a80, Value.int IntKind.i64 a81, Value.int IntKind.i64 a82, Value.int IntKind.i64 a90, Value.int IntKind.i64 a91, Value.int IntKind.i64 a92, Value.int IntKind.u32 a10, Value.int IntKind.u32 a11, Value.slice a12p a12n a12c]] w R :=
  vc_of hm noHints Try.func16 ent16 (by kernel_rfl) h

theorem vc18 (ap : Option Addr) (an : Nat) (ac : Nat) (w : World) (R : Value → World → Prop)
  (h : callV Try.prog (25 : Nat) [Value.slice ap an ac] w fun v0 w1 =>
  isP v0 fun o2 =>
    allocC w1 (Obj.cells #[Value.pointer o2, Value.int IntKind.i64 (0 : Int)] (69 : Nat)) fun n3 w4 =>
      allocC w4 (Obj.cells #[Value.int IntKind.i64 (0 : Int)] (3 : Nat)) fun n5 w6 =>
        callV Try.prog (30 : Nat)
          [Value.iface (65 : Nat) (Value.pointer (some { block := n3, off := (0 : Nat) : Addr })), Value.pointer (some { block := n5, off := (0 : Nat) : Addr }),
            Value.int IntKind.i64 (5 : Int)]
          w6 fun v7 w8 =>
          rd (World.cell? w8 { block := n5, off := (0 : Nat) : Addr }) fun v9 =>
            isK IntKind.i64 v9 fun i10 =>
              callV Try.prog (31 : Nat) [Value.pointer (some { block := n3, off := (0 : Nat) : Addr }), Value.bool (decide (i10 ≤ (16 : Int)))] w8 fun v11 w12 =>
                loopC (alist [((6 : Nat), Value.slice none (0 : Nat) (0 : Nat))]) w12 fun u13 u14 =>
                  ∀ (u15 : Nat → Value) (w16 : World),
                    u13 (alist [((6 : Nat), u15 (6 : Nat))]) w16 →
                      isSl (u15 (6 : Nat)) fun o18 n19 n20 =>
                        rd (World.cell? w16 { block := n5, off := (0 : Nat) : Addr }) fun v21 =>
                          isK IntKind.i64 v21 fun i22 =>
                            br (decide ((↑n19 : Int) < i22))
                              (rd (World.cell? w16 { block := n3, off := (1 : Nat) : Addr }) fun v23 =>
                                isK IntKind.i64 v23 fun i24 =>
                                  br (decide (i24 = (0 : Int)))
                                    (allocC w16
                                      (Obj.cells
                                        #[Value.int IntKind.i64 (0 : Int), Value.int IntKind.u16 (0 : Int), Value.int IntKind.u16 (0 : Int), Value.int IntKind.u8 (0 : Int),
                                          Value.int IntKind.i8 (0 : Int), Value.int IntKind.i8 (0 : Int), Value.int IntKind.i64 (0 : Int), Value.int IntKind.u16 (0 : Int),
                                          Value.int IntKind.i64 (0 : Int), Value.int IntKind.i64 (0 : Int), Value.int IntKind.i64 (0 : Int), Value.int IntKind.i64 (0 : Int),
                                          Value.int IntKind.i64 (0 : Int), Value.int IntKind.i64 (0 : Int), Value.int IntKind.i64 (0 : Int), Value.int IntKind.i64 (0 : Int),
                                          Value.int IntKind.i64 (0 : Int), Value.int IntKind.i64 (0 : Int), Value.int IntKind.i64 (0 : Int), Value.int IntKind.i64 (0 : Int),
                                          Value.int IntKind.u32 (0 : Int), Value.int IntKind.u32 (0 : Int), Value.slice none (0 : Nat) (0 : Nat)]
                                        (40 : Nat))
                                      fun n25 w26 =>
                                      callV Try.prog (30 : Nat)
                                        [Value.iface (65 : Nat) (Value.pointer (some { block := n3, off := (0 : Nat) : Addr })),
                                          Value.pointer (some { block := n25, off := (0 : Nat) : Addr }), Value.int IntKind.i64 (4 : Int)]
                                        w26 fun v27 w28 =>
                                        callV Try.prog (22 : Nat)
                                          [Value.iface (65 : Nat) (Value.pointer (some { block := n3, off := (0 : Nat) : Addr })),
                                            Value.pointer (some { block := n25, off := (0 : Nat) : Addr })]
                                          w28 fun v29 w30 =>
                                          isB v29 fun t31 =>
                                            callV Try.prog (31 : Nat) [Value.pointer (some { block := n3, off := (0 : Nat) : Addr }), Value.bool t31] w30 fun v32 w33 =>
                                              isSl (u15 (6 : Nat)) fun o34 n35 n36 =>
                                                rd (cellsAt w33 { block := n25, off := (0 : Nat) : Addr } (23 : Nat)) fun l37 =>
                                                  runs Try.prog (Instr.buildSlice (22 : Nat) (1 : Nat) #[((0 : Nat), Value.agg (List.toArray l37))]) w33 fun v38 w39 =>
                                                    isSl v38 fun o40 n41 n42 =>
                                                      runs Try.prog (Builtin.append_ #[(22 : Nat), (22 : Nat)] (22 : Nat) #[Value.slice o34 n35 n36, Value.slice o40 n41 n42]) w39
                                                        fun v43 w44 =>
                                                        isSl v43 fun o45 n46 n47 =>
                                                          again u13 u14 (alist [((6 : Nat), Value.slice o45 n46 n47)]) w44 (alist [((6 : Nat), u15 (6 : Nat))]) w16)
                                    (rd (World.cell? w16 { block := n3, off := (0 : Nat) : Addr }) fun v48 =>
                                      isP v48 fun o49 =>
                                        callV Try.prog (32 : Nat) [Value.pointer o49] w16 fun v50 w51 =>
                                          isB v50 fun t52 =>
                                            br t52
                                              (callV Try.prog (31 : Nat)
                                                [Value.pointer (some { block := n3, off := (0 : Nat) : Addr }), Value.bool (decide ((↑an : Int) ≤ (1024 : Int)))] w51 fun v53 w54 =>
                                                rd (World.cell? w54 { block := n3, off := (1 : Nat) : Addr }) fun v55 =>
                                                  isK IntKind.i64 v55 fun i56 =>
                                                    br (!decide (i56 = (0 : Int)))
                                                      (rd (World.cell? (World.drew w54) { block := n3, off := (1 : Nat) : Addr }) fun v57 =>
                                                        isK IntKind.i64 v57 fun i58 =>
                                                          R (Value.tuple #[Value.slice none (0 : Nat) (0 : Nat), Value.int IntKind.i64 i58]) (World.drew w54))
                                                      (isSl (u15 (6 : Nat)) fun o59 n60 n61 => R (Value.tuple #[Value.slice o59 n60 n61, Value.int IntKind.i64 (0 : Int)]) w54))
                                              (callV Try.prog (31 : Nat) [Value.pointer (some { block := n3, off := (0 : Nat) : Addr }), Value.bool false] w51 fun v62 w63 =>
                                                rd (World.cell? w63 { block := n3, off := (1 : Nat) : Addr }) fun v64 =>
                                                  isK IntKind.i64 v64 fun i65 =>
                                                    br (!decide (i65 = (0 : Int)))
                                                      (rd (World.cell? (World.drew w63) { block := n3, off := (1 : Nat) : Addr }) fun v66 =>
                                                        isK IntKind.i64 v66 fun i67 =>
                                                          R (Value.tuple #[Value.slice none (0 : Nat) (0 : Nat), Value.int IntKind.i64 i67]) (World.drew w63))
                                                      (isSl (u15 (6 : Nat)) fun o68 n69 n70 => R (Value.tuple #[Value.slice o68 n69 n70, Value.int IntKind.i64 (0 : Int)]) w63))))
                              (rd (World.cell? w16 { block := n3, off := (0 : Nat) : Addr }) fun v71 =>
                                isP v71 fun o72 =>
                                  callV Try.prog (32 : Nat) [Value.pointer o72] w16 fun v73 w74 =>
                                    isB v73 fun t75 =>
                                      br t75
                                        (callV Try.prog (31 : Nat) [Value.pointer (some { block := n3, off := (0 : Nat) : Addr }), Value.bool (decide ((↑an : Int) ≤ (1024 : Int)))]
                                          w74 fun v76 w77 =>
                                          rd (World.cell? w77 { block := n3, off := (1 : Nat) : Addr }) fun v78 =>
                                            isK IntKind.i64 v78 fun i79 =>
                                              br (!decide (i79 = (0 : Int)))
                                                (rd (World.cell? (World.drew w77) { block := n3, off := (1 : Nat) : Addr }) fun v80 =>
                                                  isK IntKind.i64 v80 fun i81 =>
                                                    R (Value.tuple #[Value.slice none (0 : Nat) (0 : Nat), Value.int IntKind.i64 i81]) (World.drew w77))
                                                (isSl (u15 (6 : Nat)) fun o82 n83 n84 => R (Value.tuple #[Value.slice o82 n83 n84, Value.int IntKind.i64 (0 : Int)]) w77))
                                        (callV Try.prog (31 : Nat) [Value.pointer (some { block := n3, off := (0 : Nat) : Addr }), Value.bool false] w74 fun v85 w86 =>
                                          rd (World.cell? w86 { block := n3, off := (1 : Nat) : Addr }) fun v87 =>
                                            isK IntKind.i64 v87 fun i88 =>
                                              br (!decide (i88 = (0 : Int)))
                                                (rd (World.cell? (World.drew w86) { block := n3, off := (1 : Nat) : Addr }) fun v89 =>
                                                  isK IntKind.i64 v89 fun i90 =>
                                                    R (Value.tuple #[Value.slice none (0 : Nat) (0 : Nat), Value.int IntKind.i64 i90]) (World.drew w86))
                                                (isSl (u15 (6 : Nat)) fun o91 n92 n93 => R (Value.tuple #[Value.slice o91 n92 n93, Value.int IntKind.i64 (0 : Int)]) w86)))) :
  callV Try.prog 18 [Value.slice ap an ac] w R :=
  vc_of hm ⟨fun _ => false, fun n => match n with | 13 => .take 0 (.take 1 (.take 2 (.take 3 (.take 4 (.take 5 (.done)))))) | _ => .done, fun n => match n with | 6 => [6] | _ => []⟩ Try.func18 ent18 (by kernel_rfl) h

theorem vc20 (ap : Option Addr) (an : Nat) (ac : Nat) (bp : Option Addr) (bn : Nat) (bc : Nat) (w : World) (R : Value → World → Prop)
  (h : br (!decide ((↑an : Int) = (↑bn : Int))) (R (Value.bool false) w)
  (loopC (alist [((5 : Nat), Value.int IntKind.i64 (0 : Int))]) w fun u0 u1 =>
    ∀ (u2 : Nat → Value) (w3 : World),
      u0 (alist [((5 : Nat), u2 (5 : Nat))]) w3 →
        isK IntKind.i64 (u2 (5 : Nat)) fun i5 =>
          br (decide (i5 < (↑an : Int)))
            (heldC (World.drew w3) fun u6 =>
              (∀ (w7 : World), u6 w7 → Value.slice ap an ac = Value.slice ap an ac ∧ w7 = w7) ∧
                (∀ (w9 : World), u6 w9 → u2 (5 : Nat) = u2 (5 : Nat) ∧ w9 = w9) ∧
                  isK IntKind.i64 (u2 (5 : Nat)) fun i11 =>
                    rd ap fun a12 =>
                      ((0 : Int) ≤ i11 ∧ i11 < (↑an : Int)) ∧
                        (∀ (w13 : World),
                            u6 w13 →
                              rd ap fun a15 =>
                                ((0 : Int) ≤ i11 ∧ i11 < (↑an : Int)) ∧
                                  Value.pointer (some (Addr.add a15 (Int.toNat i11 * (23 : Nat)))) = Value.pointer (some (Addr.add a12 (Int.toNat i11 * (23 : Nat)))) ∧ w13 = w13) ∧
                          rd (cellsAt (World.drew w3) (Addr.add a12 (Int.toNat i11 * (23 : Nat))) (23 : Nat)) fun l16 =>
                            (∀ (w17 : World),
                                u6 w17 →
                                  rd (cellsAt w17 (Addr.add a12 (Int.toNat i11 * (23 : Nat))) (23 : Nat)) fun l19 =>
                                    Value.agg (List.toArray l19) = Value.agg (List.toArray l16) ∧ w17 = w17) ∧
                              (∀ (w20 : World), u6 w20 → Value.slice bp bn bc = Value.slice bp bn bc ∧ w20 = w20) ∧
                                (∀ (w22 : World), u6 w22 → u2 (5 : Nat) = u2 (5 : Nat) ∧ w22 = w22) ∧
                                  isK IntKind.i64 (u2 (5 : Nat)) fun i24 =>
                                    rd bp fun a25 =>
                                      ((0 : Int) ≤ i24 ∧ i24 < (↑bn : Int)) ∧
                                        (∀ (w26 : World),
                                            u6 w26 →
                                              rd bp fun a28 =>
                                                ((0 : Int) ≤ i24 ∧ i24 < (↑bn : Int)) ∧
                                                  Value.pointer (some (Addr.add a28 (Int.toNat i24 * (23 : Nat)))) =
                                                      Value.pointer (some (Addr.add a25 (Int.toNat i24 * (23 : Nat)))) ∧
                                                    w26 = w26) ∧
                                          rd (cellsAt (World.drew w3) (Addr.add a25 (Int.toNat i24 * (23 : Nat))) (23 : Nat)) fun l29 =>
                                            (∀ (w30 : World),
                                                u6 w30 →
                                                  rd (cellsAt w30 (Addr.add a25 (Int.toNat i24 * (23 : Nat))) (23 : Nat)) fun l32 =>
                                                    Value.agg (List.toArray l32) = Value.agg (List.toArray l29) ∧ w30 = w30) ∧
                                              callV Try.prog (27 : Nat) [Value.agg (List.toArray l16), Value.agg (List.toArray l29)] (World.drew w3) fun v33 w34 =>
                                                isB v33 fun t35 =>
                                                  u6 w34 ∧
                                                    (∀ (w36 : World), u6 w36 → (Value.bool !t35) = Value.bool !t35 ∧ w36 = w36) ∧
                                                      br (!t35) (R (Value.bool false) w34)
                                                        (isK IntKind.i64 (u2 (5 : Nat)) fun i38 =>
                                                          again u0 u1 (alist [((5 : Nat), Value.int IntKind.i64 (IntKind.wrap IntKind.i64 (i38 + (1 : Int))))]) w34
                                                            (alist [((5 : Nat), u2 (5 : Nat))]) w3))
            (R (Value.bool true) w3))) :
  callV Try.prog 20 [Value.slice ap an ac, Value.slice bp bn bc] w R :=
  vc_of hm ⟨fun _ => false, fun n => match n with | 6 => .take 0 (.take 1 (.take 2 (.take 3 (.take 4 (.take 5 (.take 6 (.take 7 (.one 8 (.take 9 (.done)))))))))) | _ => .done, fun n => match n with | 4 => [5] | _ => []⟩ Try.func20 ent20 (by kernel_rfl) h

end Go.Proofs.Ytfekkdmnboccfaa
