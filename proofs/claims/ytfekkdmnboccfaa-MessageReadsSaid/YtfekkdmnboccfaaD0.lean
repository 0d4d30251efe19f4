/- The conditions of functions, written out: printed by a small program (VCDev.lean, vcgen.sh).  Conditions: none. -/
import Derived.Test.YtfekkdmnboccfaaTab
namespace Go.Proofs.Ytfekkdmnboccfaa
set_option linter.unusedSimpArgs false
set_option linter.unusedVariables false
open Go VC
theorem vc15 (ap : Option Addr) (an : Nat) (ac : Nat) (w : World) (R : Value → World → Prop)
  (h : loopC (alist [((4 : Nat), Value.int IntKind.i64 (0 : Int))]) w fun u0 u1 =>
  ∀ (u2 : Nat → Value) (w3 : World),
    u0 (alist [((4 : Nat), u2 (4 : Nat))]) w3 →
      isK IntKind.i64 (u2 (4 : Nat)) fun i5 =>
        br (decide (i5 < (↑an : Int)))
          (isK IntKind.i64 (u2 (4 : Nat)) fun i6 =>
            rd ap fun a7 =>
              ((0 : Int) ≤ i6 ∧ i6 < (↑an : Int)) ∧
                rd (cellsAt w3 (Addr.add a7 (Int.toNat i6 * (23 : Nat))) (23 : Nat)) fun l8 =>
                  callV Try.prog (17 : Nat) [Value.agg (List.toArray l8)] w3 fun v9 w10 =>
                    isB v9 fun t11 =>
                      br (!t11) (R (Value.tuple #[Value.string { data := #[] : ByteArray }, Value.int IntKind.i64 (1 : Int)]) w10)
                        (isK IntKind.i64 (u2 (4 : Nat)) fun i12 =>
                          again u0 u1 (alist [((4 : Nat), Value.int IntKind.i64 (IntKind.wrap IntKind.i64 (i12 + (1 : Int))))]) w10 (alist [((4 : Nat), u2 (4 : Nat))]) w3))
          (br (decide ((16 : Int) < (↑an : Int))) (R (Value.tuple #[Value.string { data := #[] : ByteArray }, Value.int IntKind.i64 (5 : Int)]) w3)
            (callV Try.prog (24 : Nat) [Value.slice ap an ac] w3 fun v13 w14 =>
              isStr v13 fun x15 =>
                br (decide ((1024 : Int) < (↑(ByteArray.size x15) : Int))) (R (Value.tuple #[Value.string { data := #[] : ByteArray }, Value.int IntKind.i64 (5 : Int)]) w14)
                  (R (Value.tuple #[Value.string x15, Value.int IntKind.i64 (0 : Int)]) w14)))) :
  callV Try.prog 15 [Value.slice ap an ac] w R :=
  vc_of hm ⟨fun _ => false, fun _ => .done, fun n => match n with | 2 => [4] | _ => []⟩ Try.func15 ent15 (by kernel_rfl) h

theorem vc24 (ap : Option Addr) (an : Nat) (ac : Nat) (w : World) (R : Value → World → Prop)
  (h : callV Try.prog (47 : Nat) [Value.int IntKind.u64 (IntKind.wrap IntKind.u64 (↑an : Int)), Value.int IntKind.i64 (5 : Int)] w fun v0 w1 =>
  isStr v0 fun x2 =>
    loopC (alist [((3 : Nat), Value.string x2), ((4 : Nat), Value.int IntKind.i64 (0 : Int))]) w1 fun u3 u4 =>
      ∀ (u5 : Nat → Value) (w6 : World),
        u3 (alist [((3 : Nat), u5 (3 : Nat)), ((4 : Nat), u5 (4 : Nat))]) w6 →
          isK IntKind.i64 (u5 (4 : Nat)) fun i8 =>
            br (decide (i8 < (↑an : Int)))
              (isStr (u5 (3 : Nat)) fun x9 =>
                isK IntKind.i64 (u5 (4 : Nat)) fun i10 =>
                  rd ap fun a11 =>
                    ((0 : Int) ≤ i10 ∧ i10 < (↑an : Int)) ∧
                      rd (cellsAt w6 (Addr.add a11 (Int.toNat i10 * (23 : Nat))) (23 : Nat)) fun l12 =>
                        callV Try.prog (48 : Nat) [Value.agg (List.toArray l12)] w6 fun v13 w14 =>
                          isStr v13 fun x15 =>
                            rd (orO (binV BinOp.add (Value.string x9) (Value.string x15)) none) fun v16 =>
                              isStr v16 fun x17 =>
                                isK IntKind.i64 (u5 (4 : Nat)) fun i18 =>
                                  again u3 u4 (alist [((3 : Nat), Value.string x17), ((4 : Nat), Value.int IntKind.i64 (IntKind.wrap IntKind.i64 (i18 + (1 : Int))))]) w14
                                    (alist [((3 : Nat), u5 (3 : Nat)), ((4 : Nat), u5 (4 : Nat))]) w6)
              (isStr (u5 (3 : Nat)) fun x19 => callV Try.prog (49 : Nat) [Value.string x19] w6 fun v20 w21 => isStr v20 fun x22 => R (Value.string x22) w21)) :
  callV Try.prog 24 [Value.slice ap an ac] w R :=
  vc_of hm ⟨fun _ => false, fun _ => .done, fun n => match n with | 3 => [3, 4] | _ => []⟩ Try.func24 ent24 (by kernel_rfl) h

theorem vc29 (a0 : Int) (a1 : Int) (a2 : Int) (b : Int) (c : Int) (w : World) (R : Value → World → Prop)
  (h : allocC w (Obj.cells #[Value.int IntKind.i64 a0, Value.int IntKind.i64 a1, Value.int IntKind.i64 a2] (37 : Nat)) fun n0 w1 =>
  rd (World.cell? w1 { block := n0, off := (0 : Nat) : Addr }) fun v2 =>
    isK IntKind.i64 v2 fun i3 =>
      rd (World.cell? w1 { block := n0, off := (1 : Nat) : Addr }) fun v4 =>
        isK IntKind.i64 v4 fun i5 =>
          rd (World.cell? w1 { block := n0, off := (2 : Nat) : Addr }) fun v6 =>
            isK IntKind.i64 v6 fun i7 =>
              runs Try.prog (Builtin.min_ #[(2 : Nat), (2 : Nat), (2 : Nat)] (2 : Nat) #[Value.int IntKind.i64 i3, Value.int IntKind.i64 i5, Value.int IntKind.i64 i7]) w1
                fun v8 w9 =>
                isK IntKind.i64 v8 fun i10 =>
                  br (decide (b ≤ i10))
                    (rd (World.cell? w9 { block := n0, off := (0 : Nat) : Addr }) fun v11 =>
                      isK IntKind.i64 v11 fun i12 =>
                        rd (World.cell? w9 { block := n0, off := (1 : Nat) : Addr }) fun v13 =>
                          isK IntKind.i64 v13 fun i14 =>
                            rd (World.cell? w9 { block := n0, off := (2 : Nat) : Addr }) fun v15 =>
                              isK IntKind.i64 v15 fun i16 =>
                                runs Try.prog
                                  (Builtin.max_ #[(2 : Nat), (2 : Nat), (2 : Nat)] (2 : Nat) #[Value.int IntKind.i64 i12, Value.int IntKind.i64 i14, Value.int IntKind.i64 i16]) w9
                                  fun v17 w18 => isK IntKind.i64 v17 fun i19 => R (Value.bool (decide (i19 ≤ c))) w18)
                    (R (Value.bool false) w9)) :
  callV Try.prog 29 [Value.agg #[Value.int IntKind.i64 a0, Value.int IntKind.i64 a1, Value.int IntKind.i64 a2], Value.int IntKind.i64 b, Value.int IntKind.i64 c] w R :=
  vc_of hm noHints Try.func29 ent29 (by kernel_rfl) h

theorem vc33 (a : ByteArray) (w : World) (R : Value → World → Prop)
  (h : loopC (alist [((3 : Nat), Value.string { data := #[] : ByteArray }), ((4 : Nat), Value.int IntKind.i64 (0 : Int))]) w fun u0 u1 =>
  ∀ (u2 : Nat → Value) (w3 : World),
    u0 (alist [((3 : Nat), u2 (3 : Nat)), ((4 : Nat), u2 (4 : Nat))]) w3 →
      isK IntKind.i64 (u2 (4 : Nat)) fun i5 =>
        br (decide (i5 < (↑(ByteArray.size a) : Int)))
          (isStr (u2 (3 : Nat)) fun x6 =>
            isK IntKind.i64 (u2 (4 : Nat)) fun i7 =>
              runs Try.prog (Instr.index (9 : Nat) (Value.string a) (Value.int IntKind.i64 i7)) w3 fun v8 w9 =>
                isK IntKind.u8 v8 fun i10 =>
                  callV Try.prog (47 : Nat) [Value.int IntKind.u64 (IntKind.wrap IntKind.u64 i10), Value.int IntKind.i64 (8 : Int)] w9 fun v11 w12 =>
                    isStr v11 fun x13 =>
                      rd (orO (binV BinOp.add (Value.string x6) (Value.string x13)) none) fun v14 =>
                        isStr v14 fun x15 =>
                          isK IntKind.i64 (u2 (4 : Nat)) fun i16 =>
                            again u0 u1 (alist [((3 : Nat), Value.string x15), ((4 : Nat), Value.int IntKind.i64 (IntKind.wrap IntKind.i64 (i16 + (1 : Int))))]) w12
                              (alist [((3 : Nat), u2 (3 : Nat)), ((4 : Nat), u2 (4 : Nat))]) w3)
          (isStr (u2 (3 : Nat)) fun x17 => R (Value.string x17) w3)) :
  callV Try.prog 33 [Value.string a] w R :=
  vc_of hm ⟨fun _ => false, fun _ => .done, fun n => match n with | 3 => [3, 4] | _ => []⟩ Try.func33 ent33 (by kernel_rfl) h

theorem vc47 (a : Int) (b : Int) (w : World) (R : Value → World → Prop)
  (h : loopC (alist [((0 : Nat), Value.int IntKind.u64 a), ((5 : Nat), Value.string { data := #[] : ByteArray }), ((6 : Nat), Value.int IntKind.i64 (0 : Int))]) w fun u0 u1 =>
  ∀ (u2 : Nat → Value) (w3 : World),
    u0 (alist [((0 : Nat), u2 (0 : Nat)), ((5 : Nat), u2 (5 : Nat)), ((6 : Nat), u2 (6 : Nat))]) w3 →
      isK IntKind.i64 (u2 (6 : Nat)) fun i5 =>
        callV Try.prog (61 : Nat) [Value.int IntKind.i64 b] w3 fun v6 w7 =>
          isK IntKind.i64 v6 fun i8 =>
            br (decide (i5 < i8))
              (isK IntKind.u64 (u2 (0 : Nat)) fun i9 =>
                runs Try.prog
                  (Instr.buildSlice (25 : Nat) (1 : Nat)
                    #[((0 : Nat), Value.int IntKind.u8 (IntKind.wrap IntKind.u8 (IntKind.wrap IntKind.u64 ((48 : Int) + Int.tmod i9 (2 : Int)))))])
                  w7 fun v10 w11 =>
                  isSl v10 fun o12 n13 n14 =>
                    runs Try.prog (convert (25 : Nat) (9 : Nat) (Value.slice o12 n13 n14)) w11 fun v15 w16 =>
                      isStr v15 fun x17 =>
                        isStr (u2 (5 : Nat)) fun x18 =>
                          rd (orO (binV BinOp.add (Value.string x17) (Value.string x18)) none) fun v19 =>
                            isStr v19 fun x20 =>
                              isK IntKind.u64 (u2 (0 : Nat)) fun i21 =>
                                isK IntKind.i64 (u2 (6 : Nat)) fun i22 =>
                                  again u0 u1
                                    (alist
                                      [((0 : Nat), Value.int IntKind.u64 (IntKind.wrap IntKind.u64 (Int.tdiv i21 (2 : Int)))), ((5 : Nat), Value.string x20),
                                        ((6 : Nat), Value.int IntKind.i64 (IntKind.wrap IntKind.i64 (i22 + (1 : Int))))])
                                    w16 (alist [((0 : Nat), u2 (0 : Nat)), ((5 : Nat), u2 (5 : Nat)), ((6 : Nat), u2 (6 : Nat))]) w3)
              (isStr (u2 (5 : Nat)) fun x23 => R (Value.string x23) w7)) :
  callV Try.prog 47 [Value.int IntKind.u64 a, Value.int IntKind.i64 b] w R :=
  vc_of hm ⟨fun _ => false, fun _ => .done, fun n => match n with | 3 => [0, 5, 6] | _ => []⟩ Try.func47 ent47 (by kernel_rfl) h

theorem vc49 (a : ByteArray) (w : World) (R : Value → World → Prop)
  (h : loopC (alist [((0 : Nat), Value.string a)]) w fun u0 u1 =>
  ∀ (u2 : Nat → Value) (w3 : World),
    u0 (alist [((0 : Nat), u2 (0 : Nat))]) w3 →
      isStr (u2 (0 : Nat)) fun x5 =>
        br (!decide (Int.tmod (↑(ByteArray.size x5) : Int) (8 : Int) = (0 : Int)))
          (isStr (u2 (0 : Nat)) fun x6 =>
            rd (orO (binV BinOp.add (Value.string x6) (Value.string { data := #[(48 : UInt8)] : ByteArray })) none) fun v7 =>
              isStr v7 fun x8 => again u0 u1 (alist [((0 : Nat), Value.string x8)]) w3 (alist [((0 : Nat), u2 (0 : Nat))]) w3)
          (loopC (alist [((3 : Nat), Value.string { data := #[] : ByteArray }), ((4 : Nat), Value.int IntKind.i64 (0 : Int))]) w3 fun u9 u10 =>
            ∀ (u11 : Nat → Value) (w12 : World),
              u9 (alist [((3 : Nat), u11 (3 : Nat)), ((4 : Nat), u11 (4 : Nat))]) w12 →
                isK IntKind.i64 (u11 (4 : Nat)) fun i14 =>
                  isStr (u2 (0 : Nat)) fun x15 =>
                    br (decide (i14 < (↑(ByteArray.size x15) : Int)))
                      (isStr (u11 (3 : Nat)) fun x16 =>
                        isStr (u2 (0 : Nat)) fun x17 =>
                          isK IntKind.i64 (u11 (4 : Nat)) fun i18 =>
                            isK IntKind.i64 (u11 (4 : Nat)) fun i19 =>
                              runs Try.prog
                                (Instr.sliceAt (9 : Nat) (Value.string x17) (some (Value.int IntKind.i64 i18))
                                  (some (Value.int IntKind.i64 (IntKind.wrap IntKind.i64 (i19 + (8 : Int))))) none)
                                w12 fun v20 w21 =>
                                isStr v20 fun x22 =>
                                  callV Try.prog (55 : Nat) [Value.string x22] w21 fun v23 w24 =>
                                    isK IntKind.u64 v23 fun i25 =>
                                      runs Try.prog (Instr.buildSlice (25 : Nat) (1 : Nat) #[((0 : Nat), Value.int IntKind.u8 (IntKind.wrap IntKind.u8 i25))]) w24 fun v26 w27 =>
                                        isSl v26 fun o28 n29 n30 =>
                                          runs Try.prog (convert (25 : Nat) (9 : Nat) (Value.slice o28 n29 n30)) w27 fun v31 w32 =>
                                            isStr v31 fun x33 =>
                                              rd (orO (binV BinOp.add (Value.string x16) (Value.string x33)) none) fun v34 =>
                                                isStr v34 fun x35 =>
                                                  isK IntKind.i64 (u11 (4 : Nat)) fun i36 =>
                                                    again u9 u10
                                                      (alist [((3 : Nat), Value.string x35), ((4 : Nat), Value.int IntKind.i64 (IntKind.wrap IntKind.i64 (i36 + (8 : Int))))]) w32
                                                      (alist [((3 : Nat), u11 (3 : Nat)), ((4 : Nat), u11 (4 : Nat))]) w12)
                      (isStr (u11 (3 : Nat)) fun x37 => R (Value.string x37) w12))) :
  callV Try.prog 49 [Value.string a] w R :=
  vc_of hm ⟨fun _ => false, fun _ => .done, fun n => match n with | 2 => [0] | 5 => [3, 4] | _ => []⟩ Try.func49 ent49 (by kernel_rfl) h

theorem vc55 (a : ByteArray) (w : World) (R : Value → World → Prop)
  (h : loopC (alist [((3 : Nat), Value.int IntKind.u64 (0 : Int)), ((4 : Nat), Value.int IntKind.i64 (0 : Int))]) w fun u0 u1 =>
  ∀ (u2 : Nat → Value) (w3 : World),
    u0 (alist [((3 : Nat), u2 (3 : Nat)), ((4 : Nat), u2 (4 : Nat))]) w3 →
      isK IntKind.i64 (u2 (4 : Nat)) fun i5 =>
        br (decide (i5 < (↑(ByteArray.size a) : Int)))
          (isK IntKind.u64 (u2 (3 : Nat)) fun i6 =>
            isK IntKind.i64 (u2 (4 : Nat)) fun i7 =>
              runs Try.prog (Instr.index (9 : Nat) (Value.string a) (Value.int IntKind.i64 i7)) w3 fun v8 w9 =>
                isK IntKind.u8 v8 fun i10 =>
                  isK IntKind.i64 (u2 (4 : Nat)) fun i11 =>
                    again u0 u1
                      (alist
                        [((3 : Nat),
                            Value.int IntKind.u64
                              (IntKind.wrap IntKind.u64 (IntKind.wrap IntKind.u64 (i6 * (2 : Int)) + IntKind.wrap IntKind.u64 (IntKind.wrap IntKind.u8 (i10 - (48 : Int)))))),
                          ((4 : Nat), Value.int IntKind.i64 (IntKind.wrap IntKind.i64 (i11 + (1 : Int))))])
                      w9 (alist [((3 : Nat), u2 (3 : Nat)), ((4 : Nat), u2 (4 : Nat))]) w3)
          (isK IntKind.u64 (u2 (3 : Nat)) fun i12 => R (Value.int IntKind.u64 i12) w3)) :
  callV Try.prog 55 [Value.string a] w R :=
  vc_of hm ⟨fun _ => false, fun _ => .done, fun n => match n with | 3 => [3, 4] | _ => []⟩ Try.func55 ent55 (by kernel_rfl) h

theorem vc61 (a : Int) (w : World) (R : Value → World → Prop)
  (h : R (Value.int IntKind.i64 (max (0 : Int) (min a (64 : Int)))) w) :
  callV Try.prog 61 [Value.int IntKind.i64 a] w R :=
  vc_of hm noHints Try.func61 ent61 (by kernel_rfl) h

theorem vc62 (a0 : Int) (a1 : Int) (a2 : Int) (b : Int) (w : World) (R : Value → World → Prop)
  (h : allocC w (Obj.cells #[Value.int IntKind.i64 a0, Value.int IntKind.i64 a1, Value.int IntKind.i64 a2] (37 : Nat)) fun n0 w1 =>
  heldC (World.drew w1) fun u2 =>
    (∀ (w3 : World), u2 w3 → Value.pointer (some { block := n0, off := (0 : Nat) : Addr }) = Value.pointer (some { block := n0, off := (0 : Nat) : Addr }) ∧ w3 = w3) ∧
      rd (World.cell? (World.drew w1) { block := n0, off := (0 : Nat) : Addr }) fun v5 =>
        (∀ (w6 : World), u2 w6 → rd (World.cell? w6 { block := n0, off := (0 : Nat) : Addr }) fun v8 => v8 = v5 ∧ w6 = w6) ∧
          isK IntKind.i64 v5 fun i9 =>
            (∀ (w10 : World), u2 w10 → Value.int IntKind.u64 (IntKind.wrap IntKind.u64 i9) = Value.int IntKind.u64 (IntKind.wrap IntKind.u64 i9) ∧ w10 = w10) ∧
              (∀ (w12 : World), u2 w12 → Value.int IntKind.i64 b = Value.int IntKind.i64 b ∧ w12 = w12) ∧
                (∀ (w14 : World),
                    u2 w14 → Value.pointer (some { block := n0, off := (1 : Nat) : Addr }) = Value.pointer (some { block := n0, off := (1 : Nat) : Addr }) ∧ w14 = w14) ∧
                  rd (World.cell? (World.drew w1) { block := n0, off := (1 : Nat) : Addr }) fun v16 =>
                    (∀ (w17 : World), u2 w17 → rd (World.cell? w17 { block := n0, off := (1 : Nat) : Addr }) fun v19 => v19 = v16 ∧ w17 = w17) ∧
                      isK IntKind.i64 v16 fun i20 =>
                        (∀ (w21 : World), u2 w21 → Value.int IntKind.u64 (IntKind.wrap IntKind.u64 i20) = Value.int IntKind.u64 (IntKind.wrap IntKind.u64 i20) ∧ w21 = w21) ∧
                          (∀ (w23 : World), u2 w23 → Value.int IntKind.i64 b = Value.int IntKind.i64 b ∧ w23 = w23) ∧
                            (∀ (w25 : World),
                                u2 w25 →
                                  Value.pointer (some { block := n0, off := (2 : Nat) : Addr }) = Value.pointer (some { block := n0, off := (2 : Nat) : Addr }) ∧ w25 = w25) ∧
                              rd (World.cell? (World.drew w1) { block := n0, off := (2 : Nat) : Addr }) fun v27 =>
                                (∀ (w28 : World), u2 w28 → rd (World.cell? w28 { block := n0, off := (2 : Nat) : Addr }) fun v30 => v30 = v27 ∧ w28 = w28) ∧
                                  isK IntKind.i64 v27 fun i31 =>
                                    (∀ (w32 : World),
                                        u2 w32 → Value.int IntKind.u64 (IntKind.wrap IntKind.u64 i31) = Value.int IntKind.u64 (IntKind.wrap IntKind.u64 i31) ∧ w32 = w32) ∧
                                      (∀ (w34 : World), u2 w34 → Value.int IntKind.i64 b = Value.int IntKind.i64 b ∧ w34 = w34) ∧
                                        callV Try.prog (47 : Nat) [Value.int IntKind.u64 (IntKind.wrap IntKind.u64 i9), Value.int IntKind.i64 b] (World.drew w1) fun v36 w37 =>
                                          isStr v36 fun x38 =>
                                            u2 w37 ∧
                                              callV Try.prog (47 : Nat) [Value.int IntKind.u64 (IntKind.wrap IntKind.u64 i20), Value.int IntKind.i64 b] w37 fun v39 w40 =>
                                                isStr v39 fun x41 =>
                                                  u2 w40 ∧
                                                    rd (orO (binV BinOp.add (Value.string x38) (Value.string x41)) none) fun v42 =>
                                                      (∀ (w43 : World),
                                                          u2 w43 → rd (orO (binV BinOp.add (Value.string x38) (Value.string x41)) none) fun v45 => v45 = v42 ∧ w43 = w43) ∧
                                                        isStr v42 fun x46 =>
                                                          callV Try.prog (47 : Nat) [Value.int IntKind.u64 (IntKind.wrap IntKind.u64 i31), Value.int IntKind.i64 b] w40
                                                            fun v47 w48 =>
                                                            isStr v47 fun x49 =>
                                                              u2 w48 ∧
                                                                rd (orO (binV BinOp.add (Value.string x46) (Value.string x49)) none) fun v50 =>
                                                                  (∀ (w51 : World),
                                                                      u2 w51 →
                                                                        rd (orO (binV BinOp.add (Value.string x46) (Value.string x49)) none) fun v53 => v53 = v50 ∧ w51 = w51) ∧
                                                                    isStr v50 fun x54 =>
                                                                      (∀ (w55 : World), u2 w55 → Value.string x54 = Value.string x54 ∧ w55 = w55) ∧ R (Value.string x54) w48) :
  callV Try.prog 62 [Value.agg #[Value.int IntKind.i64 a0, Value.int IntKind.i64 a1, Value.int IntKind.i64 a2], Value.int IntKind.i64 b] w R :=
  vc_of hm ⟨fun _ => false, fun n => match n with | 1 => .take 0 (.take 1 (.take 2 (.take 3 (.take 5 (.take 6 (.take 7 (.take 8 (.take 11 (.take 12 (.take 13 (.take 14 (.one 4 (.one 9 (.take 10 (.one 15 (.take 16 (.take 17 (.done)))))))))))))))))) | _ => .done, fun _ => []⟩ Try.func62 ent62 (by kernel_rfl) h

theorem vc3 (ap : Option Addr) (an : Nat) (ac : Nat) (w : World) (R : Value → World → Prop)
  (h : callV Try.prog (12 : Nat) [] w fun v0 w1 =>
  isB v0 fun t2 =>
    callV Try.prog (13 : Nat) [Value.slice ap an ac] w1 fun v3 w4 =>
      isSl v3 fun o5 n6 n7 =>
        callV Try.prog (14 : Nat) [Value.slice o5 n6 n7] w4 fun v8 w9 =>
          isTup v8 fun l10 =>
            rd l10[(0 : Nat)]? fun v11 =>
              isSl v11 fun o12 n13 n14 =>
                isTup v8 fun l15 =>
                  rd l15[(1 : Nat)]? fun v16 =>
                    isK IntKind.i64 v16 fun i17 =>
                      callV Try.prog (15 : Nat) [Value.slice o5 n6 n7] w9 fun v18 w19 =>
                        isTup v18 fun l20 =>
                          rd l20[(0 : Nat)]? fun v21 =>
                            isStr v21 fun x22 =>
                              isTup v18 fun l23 =>
                                rd l23[(1 : Nat)]? fun v24 =>
                                  isK IntKind.i64 v24 fun i25 =>
                                    loopC (alist [((8 : Nat), Value.int IntKind.i64 (0 : Int))]) w19 fun u26 u27 =>
                                      ∀ (u28 : Nat → Value) (w29 : World),
                                        u26 (alist [((8 : Nat), u28 (8 : Nat))]) w29 →
                                          isK IntKind.i64 (u28 (8 : Nat)) fun i31 =>
                                            br (decide (i31 < (↑n6 : Int)))
                                              (heldC (World.drew w29) fun u32 =>
                                                (∀ (w33 : World), u32 w33 → Value.slice o5 n6 n7 = Value.slice o5 n6 n7 ∧ w33 = w33) ∧
                                                  (∀ (w35 : World), u32 w35 → u28 (8 : Nat) = u28 (8 : Nat) ∧ w35 = w35) ∧
                                                    isK IntKind.i64 (u28 (8 : Nat)) fun i37 =>
                                                      rd o5 fun a38 =>
                                                        ((0 : Int) ≤ i37 ∧ i37 < (↑n6 : Int)) ∧
                                                          (∀ (w39 : World),
                                                              u32 w39 →
                                                                rd o5 fun a41 =>
                                                                  ((0 : Int) ≤ i37 ∧ i37 < (↑n6 : Int)) ∧
                                                                    Value.pointer (some (Addr.add a41 (Int.toNat i37 * (23 : Nat)))) =
                                                                        Value.pointer (some (Addr.add a38 (Int.toNat i37 * (23 : Nat)))) ∧
                                                                      w39 = w39) ∧
                                                            rd (cellsAt (World.drew w29) (Addr.add a38 (Int.toNat i37 * (23 : Nat))) (23 : Nat)) fun l42 =>
                                                              (∀ (w43 : World),
                                                                  u32 w43 →
                                                                    rd (cellsAt w43 (Addr.add a38 (Int.toNat i37 * (23 : Nat))) (23 : Nat)) fun l45 =>
                                                                      Value.agg (List.toArray l45) = Value.agg (List.toArray l42) ∧ w43 = w43) ∧
                                                                (∀ (w46 : World), u32 w46 → Value.slice o5 n6 n7 = Value.slice o5 n6 n7 ∧ w46 = w46) ∧
                                                                  (∀ (w48 : World), u32 w48 → u28 (8 : Nat) = u28 (8 : Nat) ∧ w48 = w48) ∧
                                                                    isK IntKind.i64 (u28 (8 : Nat)) fun i50 =>
                                                                      rd o5 fun a51 =>
                                                                        ((0 : Int) ≤ i50 ∧ i50 < (↑n6 : Int)) ∧
                                                                          (∀ (w52 : World),
                                                                              u32 w52 →
                                                                                rd o5 fun a54 =>
                                                                                  ((0 : Int) ≤ i50 ∧ i50 < (↑n6 : Int)) ∧
                                                                                    Value.pointer (some (Addr.add a54 (Int.toNat i50 * (23 : Nat)))) =
                                                                                        Value.pointer (some (Addr.add a51 (Int.toNat i50 * (23 : Nat)))) ∧
                                                                                      w52 = w52) ∧
                                                                            rd (cellsAt (World.drew w29) (Addr.add a51 (Int.toNat i50 * (23 : Nat))) (23 : Nat)) fun l55 =>
                                                                              (∀ (w56 : World),
                                                                                  u32 w56 →
                                                                                    rd (cellsAt w56 (Addr.add a51 (Int.toNat i50 * (23 : Nat))) (23 : Nat)) fun l58 =>
                                                                                      Value.agg (List.toArray l58) = Value.agg (List.toArray l55) ∧ w56 = w56) ∧
                                                                                callV Try.prog (16 : Nat) [Value.agg (List.toArray l42)] (World.drew w29) fun v59 w60 =>
                                                                                  isB v59 fun t61 =>
                                                                                    u32 w60 ∧
                                                                                      callV Try.prog (17 : Nat) [Value.agg (List.toArray l55)] w60 fun v62 w63 =>
                                                                                        isB v62 fun t64 =>
                                                                                          u32 w63 ∧
                                                                                            (∀ (w65 : World),
                                                                                                u32 w65 →
                                                                                                  (Value.bool !decide (t61 = t64)) = Value.bool !decide (t61 = t64) ∧ w65 = w65) ∧
                                                                                              br (!decide (t61 = t64)) (R (Value.bool false) w63)
                                                                                                (isK IntKind.i64 (u28 (8 : Nat)) fun i67 =>
                                                                                                  again u26 u27
                                                                                                    (alist
                                                                                                      [((8 : Nat),
                                                                                                          Value.int IntKind.i64 (IntKind.wrap IntKind.i64 (i67 + (1 : Int))))])
                                                                                                    w63 (alist [((8 : Nat), u28 (8 : Nat))]) w29))
                                              (br t2
                                                (runs Try.prog (convert (25 : Nat) (9 : Nat) (Value.slice o12 n13 n14)) w29 fun v68 w69 =>
                                                  isStr v68 fun x70 => br (decide (x70 = x22)) (R (Value.bool (decide (i17 = i25))) w69) (R (Value.bool false) w69))
                                                (R (Value.bool false) w29))) :
  callV Try.prog 3 [Value.slice ap an ac] w R :=
  vc_of hm ⟨fun _ => false, fun n => match n with | 8 => .take 0 (.take 1 (.take 2 (.take 3 (.take 5 (.take 6 (.take 7 (.take 8 (.one 4 (.one 9 (.take 10 (.done))))))))))) | _ => .done, fun n => match n with | 6 => [8] | _ => []⟩ Try.func3 ent3 (by kernel_rfl) h

end Go.Proofs.Ytfekkdmnboccfaa
