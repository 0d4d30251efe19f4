/- The conditions of functions, written out: printed by a small program (VCDev.lean, vcgen.sh).  Conditions: none. -/
import Derived.Test.YtfdbojnikoonbaaTab
namespace Go.Proofs.Ytfdbojnikoonbaa
set_option linter.unusedSimpArgs false
set_option linter.unusedVariables false
open Go VC
theorem vc5 (ap : Option Addr) (an : Nat) (ac : Nat) (w : World) (R : Value → World → Prop)
  (h : callV Try.prog (7 : Nat) [] w fun v0 w1 =>
  isB v0 fun t2 =>
    callV Try.prog (8 : Nat) [] w1 fun v3 w4 =>
      isP v3 fun o5 =>
        br (Option.isNone o5) (R (Value.bool false) w4)
          (loopC (alist [((5 : Nat), Value.int IntKind.i64 (0 : Int))]) w4 fun u6 u7 =>
            ∀ (u8 : Nat → Value) (w9 : World),
              u6 (alist [((5 : Nat), u8 (5 : Nat))]) w9 →
                isK IntKind.i64 (u8 (5 : Nat)) fun i11 =>
                  br (decide (i11 < (↑an : Int)))
                    (isK IntKind.i64 (u8 (5 : Nat)) fun i12 =>
                      br (decide (i12 < (100 : Int)))
                        (cutC
                          (fun u13 =>
                            isK IntKind.i64 (u8 (5 : Nat)) fun i14 =>
                              rd ap fun a15 =>
                                ((0 : Int) ≤ i14 ∧ i14 < (↑an : Int)) ∧
                                  rd (cellsAt w9 (Addr.add a15 (Int.toNat i14 * (4 : Nat))) (4 : Nat)) fun l16 =>
                                    allocC w9
                                      (Obj.cells
                                        #[Value.int IntKind.i64 (0 : Int), Value.int IntKind.i64 (0 : Int), Value.int IntKind.u16 (0 : Int), Value.int IntKind.i64 (0 : Int)]
                                        (35 : Nat))
                                      fun n17 w18 =>
                                      rd (gd (List.length l16 == (4 : Nat))) fun _x =>
                                        stC w18 { block := n17, off := (0 : Nat) : Addr } l16 fun w19 =>
                                          rd (World.cell? w19 { block := n17, off := (0 : Nat) : Addr }) fun v20 =>
                                            isK IntKind.i64 v20 fun i21 =>
                                              br (decide (i21 < (0 : Int))) (u13 (alist []) w19)
                                                (rd (World.cell? w19 { block := n17, off := (0 : Nat) : Addr }) fun v22 =>
                                                  isK IntKind.i64 v22 fun i23 =>
                                                    br (decide ((3 : Int) < i23)) (u13 (alist []) w19)
                                                      (rd (World.cell? w19 { block := n17, off := (3 : Nat) : Addr }) fun v24 =>
                                                        isK IntKind.i64 v24 fun i25 =>
                                                          stC w19 { block := n17, off := (3 : Nat) : Addr }
                                                            [Value.int IntKind.i64 (IntKind.wrap IntKind.i64 ((1 : Int) + andI IntKind.i64 i25 (65535 : Int)))] fun w26 =>
                                                            rd (World.cell? w26 { block := n17, off := (1 : Nat) : Addr }) fun v27 =>
                                                              isK IntKind.i64 v27 fun i28 =>
                                                                rd (World.cell? w26 { block := n17, off := (2 : Nat) : Addr }) fun v29 =>
                                                                  isK IntKind.u16 v29 fun i30 =>
                                                                    rd (World.cell? w26 { block := n17, off := (3 : Nat) : Addr }) fun v31 =>
                                                                      isK IntKind.i64 v31 fun i32 =>
                                                                        callV Try.prog (9 : Nat)
                                                                          [Value.pointer o5, Value.int IntKind.i64 i28, Value.int IntKind.u16 i30, Value.int IntKind.i64 i32] w26
                                                                          fun v33 w34 =>
                                                                          isK IntKind.i64 v33 fun i35 =>
                                                                            rd (World.cell? w34 { block := n17, off := (1 : Nat) : Addr }) fun v36 =>
                                                                              isK IntKind.i64 v36 fun i37 =>
                                                                                rd (World.cell? w34 { block := n17, off := (2 : Nat) : Addr }) fun v38 =>
                                                                                  isK IntKind.u16 v38 fun i39 =>
                                                                                    callV Try.prog (11 : Nat)
                                                                                      [Value.pointer o5, Value.int IntKind.i64 i37, Value.int IntKind.u16 i39] w34 fun v40 w41 =>
                                                                                      isTup v40 fun l42 =>
                                                                                        rd l42[(0 : Nat)]? fun v43 =>
                                                                                          isK IntKind.i64 v43 fun i44 =>
                                                                                            isTup v40 fun l45 =>
                                                                                              rd l45[(1 : Nat)]? fun v46 =>
                                                                                                isK IntKind.i64 v46 fun i47 =>
                                                                                                  callV Try.prog (10 : Nat) [Value.pointer o5] w41 fun v48 w49 =>
                                                                                                    isK IntKind.i64 v48 fun i50 =>
                                                                                                      rd (World.cell? w49 { block := n17, off := (1 : Nat) : Addr }) fun v51 =>
                                                                                                        isK IntKind.i64 v51 fun i52 =>
                                                                                                          rd (World.cell? w49 { block := n17, off := (2 : Nat) : Addr }) fun v53 =>
                                                                                                            isK IntKind.u16 v53 fun i54 =>
                                                                                                              isK IntKind.i64 (u8 (5 : Nat)) fun i55 =>
                                                                                                                callV Try.prog (9 : Nat)
                                                                                                                  [Value.pointer o5, Value.int IntKind.i64 i52,
                                                                                                                    Value.int IntKind.u16 i54,
                                                                                                                    Value.int IntKind.i64
                                                                                                                      (IntKind.wrap IntKind.i64 ((1000000 : Int) + i55))]
                                                                                                                  w49 fun v56 w57 =>
                                                                                                                  isK IntKind.i64 v56 fun i58 =>
                                                                                                                    rd (World.cell? w57 { block := n17, off := (1 : Nat) : Addr })
                                                                                                                      fun v59 =>
                                                                                                                      isK IntKind.i64 v59 fun i60 =>
                                                                                                                        rd
                                                                                                                          (World.cell? w57
                                                                                                                            { block := n17, off := (2 : Nat) : Addr })
                                                                                                                          fun v61 =>
                                                                                                                          isK IntKind.u16 v61 fun i62 =>
                                                                                                                            callV Try.prog (12 : Nat)
                                                                                                                              [Value.pointer o5, Value.int IntKind.i64 i60,
                                                                                                                                Value.int IntKind.u16 i62]
                                                                                                                              w57 fun v63 w64 =>
                                                                                                                              isK IntKind.i64 v63 fun i65 =>
                                                                                                                                rd
                                                                                                                                  (World.cell? w64
                                                                                                                                    { block := n17, off := (1 : Nat) : Addr })
                                                                                                                                  fun v66 =>
                                                                                                                                  isK IntKind.i64 v66 fun i67 =>
                                                                                                                                    rd
                                                                                                                                      (World.cell? w64
                                                                                                                                        { block := n17, off := (2 : Nat) : Addr })
                                                                                                                                      fun v68 =>
                                                                                                                                      isK IntKind.u16 v68 fun i69 =>
                                                                                                                                        callV Try.prog (11 : Nat)
                                                                                                                                          [Value.pointer o5,
                                                                                                                                            Value.int IntKind.i64 i67,
                                                                                                                                            Value.int IntKind.u16 i69]
                                                                                                                                          w64 fun v70 w71 =>
                                                                                                                                          isTup v70 fun l72 =>
                                                                                                                                            rd l72[(0 : Nat)]? fun v73 =>
                                                                                                                                              isK IntKind.i64 v73 fun i74 =>
                                                                                                                                                isTup v70 fun l75 =>
                                                                                                                                                  rd l75[(1 : Nat)]? fun v76 =>
                                                                                                                                                    isK IntKind.i64 v76 fun i77 =>
                                                                                                                                                      br (decide (i35 = (0 : Int)))
                                                                                                                                                        (rd
                                                                                                                                                          (World.cell? w71
                                                                                                                                                            { block := n17,
                                                                                                                                                              off := (3 : Nat) :
                                                                                                                                                              Addr })
                                                                                                                                                          fun v78 =>
                                                                                                                                                          isK IntKind.i64 v78
                                                                                                                                                            fun i79 =>
                                                                                                                                                            br (!decide (i44 = i79))
                                                                                                                                                              (R (Value.bool false)
                                                                                                                                                                w71)
                                                                                                                                                              (br
                                                                                                                                                                (!decide
                                                                                                                                                                    (i47 =
                                                                                                                                                                      (0 : Int)))
                                                                                                                                                                (R
                                                                                                                                                                  (Value.bool false)
                                                                                                                                                                  w71)
                                                                                                                                                                (br
                                                                                                                                                                  (!decide
                                                                                                                                                                      (i58 =
                                                                                                                                                                        (7 : Int)))
                                                                                                                                                                  (R
                                                                                                                                                                    (Value.bool
                                                                                                                                                                      false)
                                                                                                                                                                    w71)
                                                                                                                                                                  (br
                                                                                                                                                                    (!decide
                                                                                                                                                                        (i65 =
                                                                                                                                                                          (7 :
                                                                                                                                                                            Int)))
                                                                                                                                                                    (R
                                                                                                                                                                      (Value.bool
                                                                                                                                                                        false)
                                                                                                                                                                      w71)
                                                                                                                                                                    (br
                                                                                                                                                                      (!decide
                                                                                                                                                                          (i74 =
                                                                                                                                                                            i44))
                                                                                                                                                                      (R
                                                                                                                                                                        (Value.bool
                                                                                                                                                                          false)
                                                                                                                                                                        w71)
                                                                                                                                                                      (br
                                                                                                                                                                        (!decide
                                                                                                                                                                            (i77 =
                                                                                                                                                                              i47))
                                                                                                                                                                        (R
                                                                                                                                                                          (Value.bool
                                                                                                                                                                            false)
                                                                                                                                                                          w71)
                                                                                                                                                                        (callV
                                                                                                                                                                          Try.prog
                                                                                                                                                                          (10 : Nat)
                                                                                                                                                                          [Value.pointer
                                                                                                                                                                              o5]
                                                                                                                                                                          w71
                                                                                                                                                                          fun v80
                                                                                                                                                                            w81 =>
                                                                                                                                                                          isK
                                                                                                                                                                            IntKind.i64
                                                                                                                                                                            v80
                                                                                                                                                                            fun
                                                                                                                                                                              i82 =>
                                                                                                                                                                            br
                                                                                                                                                                              (!decide
                                                                                                                                                                                  (i82 =
                                                                                                                                                                                    i50))
                                                                                                                                                                              (R
                                                                                                                                                                                (Value.bool
                                                                                                                                                                                  false)
                                                                                                                                                                                w81)
                                                                                                                                                                              (u13
                                                                                                                                                                                (alist
                                                                                                                                                                                  [])
                                                                                                                                                                                w81))))))))
                                                                                                                                                        (u13 (alist []) w71))))
                          fun u83 =>
                          ∀ (u84 : Nat → Value) (w85 : World),
                            u83 (alist []) w85 →
                              isK IntKind.i64 (u8 (5 : Nat)) fun i87 =>
                                again u6 u7 (alist [((5 : Nat), Value.int IntKind.i64 (IntKind.wrap IntKind.i64 (i87 + (1 : Int))))]) w85 (alist [((5 : Nat), u8 (5 : Nat))]) w9)
                        (R (Value.bool t2) w9))
                    (R (Value.bool t2) w9))) :
  callV Try.prog 5 [Value.slice ap an ac] w R :=
  vc_of hm ⟨fun n => match n with | 7 => true | _ => false, fun _ => .done, fun n => match n with | 6 => [5] | 7 => [] | _ => []⟩ Try.func5 ent5 (by kernel_rfl) h

theorem vc6 (ap : Option Addr) (an : Nat) (ac : Nat) (b : Int) (w : World) (R : Value → World → Prop)
  (h : callV Try.prog (7 : Nat) [] w fun v0 w1 =>
  isB v0 fun t2 =>
    callV Try.prog (8 : Nat) [] w1 fun v3 w4 =>
      isP v3 fun o5 =>
        callV Try.prog (8 : Nat) [] w4 fun v6 w7 =>
          isP v6 fun o8 =>
            br (Option.isNone o5) (R (Value.bool false) w7)
              (br (Option.isNone o8) (R (Value.bool false) w7)
                (loopC (alist [((8 : Nat), Value.int IntKind.i64 (0 : Int))]) w7 fun u9 u10 =>
                  ∀ (u11 : Nat → Value) (w12 : World),
                    u9 (alist [((8 : Nat), u11 (8 : Nat))]) w12 →
                      isK IntKind.i64 (u11 (8 : Nat)) fun i14 =>
                        br (decide (i14 < (↑an : Int)))
                          (isK IntKind.i64 (u11 (8 : Nat)) fun i15 =>
                            br (decide (i15 < (150 : Int)))
                              (isK IntKind.i64 (u11 (8 : Nat)) fun i16 =>
                                rd ap fun a17 =>
                                  ((0 : Int) ≤ i16 ∧ i16 < (↑an : Int)) ∧
                                    rd (cellsAt w12 (Addr.add a17 (Int.toNat i16 * (4 : Nat))) (4 : Nat)) fun l18 =>
                                      allocC w12
                                        (Obj.cells
                                          #[Value.int IntKind.i64 (0 : Int), Value.int IntKind.i64 (0 : Int), Value.int IntKind.u16 (0 : Int), Value.int IntKind.i64 (0 : Int)]
                                          (35 : Nat))
                                        fun n19 w20 =>
                                        rd (gd (List.length l18 == (4 : Nat))) fun _x =>
                                          stC w20 { block := n19, off := (0 : Nat) : Addr } l18 fun w21 =>
                                            isK IntKind.i64 (u11 (8 : Nat)) fun i22 =>
                                              stC w21 { block := n19, off := (3 : Nat) : Addr } [Value.int IntKind.i64 (IntKind.wrap IntKind.i64 (i22 + (1 : Int)))] fun w23 =>
                                                rd (cellsAt w23 { block := n19, off := (0 : Nat) : Addr } (4 : Nat)) fun l24 =>
                                                  callV Try.prog (13 : Nat) [Value.pointer o5, Value.agg (List.toArray l24)] w23 fun v25 w26 =>
                                                    isK IntKind.i64 v25 fun i27 =>
                                                      cutC
                                                        (fun u28 =>
                                                          rd (World.cell? w26 { block := n19, off := (1 : Nat) : Addr }) fun v29 =>
                                                            isK IntKind.i64 v29 fun i30 =>
                                                              br (decide (i30 = b))
                                                                (rd (cellsAt w26 { block := n19, off := (0 : Nat) : Addr } (4 : Nat)) fun l31 =>
                                                                  callV Try.prog (13 : Nat) [Value.pointer o8, Value.agg (List.toArray l31)] w26 fun v32 w33 =>
                                                                    isK IntKind.i64 v32 fun i34 => br (!decide (i34 = i27)) (R (Value.bool false) w33) (u28 (alist []) w33))
                                                                (u28 (alist []) w26))
                                                        fun u35 =>
                                                        ∀ (u36 : Nat → Value) (w37 : World),
                                                          u35 (alist []) w37 →
                                                            rd (World.cell? w37 { block := n19, off := (2 : Nat) : Addr }) fun v39 =>
                                                              isK IntKind.u16 v39 fun i40 =>
                                                                callV Try.prog (11 : Nat) [Value.pointer o5, Value.int IntKind.i64 b, Value.int IntKind.u16 i40] w37 fun v41 w42 =>
                                                                  isTup v41 fun l43 =>
                                                                    rd l43[(0 : Nat)]? fun v44 =>
                                                                      isK IntKind.i64 v44 fun i45 =>
                                                                        isTup v41 fun l46 =>
                                                                          rd l46[(1 : Nat)]? fun v47 =>
                                                                            isK IntKind.i64 v47 fun i48 =>
                                                                              rd (World.cell? w42 { block := n19, off := (2 : Nat) : Addr }) fun v49 =>
                                                                                isK IntKind.u16 v49 fun i50 =>
                                                                                  callV Try.prog (11 : Nat) [Value.pointer o8, Value.int IntKind.i64 b, Value.int IntKind.u16 i50]
                                                                                    w42 fun v51 w52 =>
                                                                                    isTup v51 fun l53 =>
                                                                                      rd l53[(0 : Nat)]? fun v54 =>
                                                                                        isK IntKind.i64 v54 fun i55 =>
                                                                                          isTup v51 fun l56 =>
                                                                                            rd l56[(1 : Nat)]? fun v57 =>
                                                                                              isK IntKind.i64 v57 fun i58 =>
                                                                                                br (!decide (i45 = i55)) (R (Value.bool false) w52)
                                                                                                  (br (!decide (i48 = i58)) (R (Value.bool false) w52)
                                                                                                    (isK IntKind.i64 (u11 (8 : Nat)) fun i59 =>
                                                                                                      again u9 u10
                                                                                                        (alist
                                                                                                          [((8 : Nat),
                                                                                                              Value.int IntKind.i64 (IntKind.wrap IntKind.i64 (i59 + (1 : Int))))])
                                                                                                        w52 (alist [((8 : Nat), u11 (8 : Nat))]) w12)))
                              (R (Value.bool t2) w12))
                          (R (Value.bool t2) w12)))) :
  callV Try.prog 6 [Value.slice ap an ac, Value.int IntKind.i64 b] w R :=
  vc_of hm ⟨fun n => match n with | 14 => true | _ => false, fun _ => .done, fun n => match n with | 7 => [8] | 14 => [] | _ => []⟩ Try.func6 ent6 (by kernel_rfl) h

end Go.Proofs.Ytfdbojnikoonbaa
