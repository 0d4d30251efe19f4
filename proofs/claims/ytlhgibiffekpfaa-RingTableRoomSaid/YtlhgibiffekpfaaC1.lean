/- The conditions of functions, written out: printed by a small program (VCDev.lean, vcgen.sh).  Conditions: none. -/
import Derived.Test.YtlhgibiffekpfaaTab
namespace Go.Proofs.Ytlhgibiffekpfaa
set_option linter.unusedSimpArgs false
set_option linter.unusedVariables false
open Go VC
theorem vc3 (a : Int) (bp : Option Addr) (bn : Nat) (bc : Nat) (w : World) (R : Value → World → Prop)
  (h : callV Try.prog (11 : Nat) [] w fun v0 w1 =>
  isB v0 fun t2 =>
    callV Try.prog (12 : Nat) [Value.int IntKind.i64 (IntKind.wrap IntKind.i64 ((1 : Int) + Int.tmod (andI IntKind.i64 a (65535 : Int)) (30 : Int)))] w1 fun v3 w4 =>
      isP v3 fun o5 =>
        br (Option.isNone o5) (R (Value.bool false) w4)
          (runs Try.prog (Instr.sliceAt (22 : Nat) (Value.slice bp bn bc) none (some (Value.int IntKind.i64 (min (↑bn : Int) (100 : Int)))) none) w4 fun v6 w7 =>
            isSl v6 fun o8 n9 n10 =>
              loopC (alist [((7 : Nat), Value.int IntKind.i64 (0 : Int))]) w7 fun u11 u12 =>
                ∀ (u13 : Nat → Value) (w14 : World),
                  u11 (alist [((7 : Nat), u13 (7 : Nat))]) w14 →
                    isK IntKind.i64 (u13 (7 : Nat)) fun i16 =>
                      br (decide (i16 < (↑n9 : Int)))
                        (isK IntKind.i64 (u13 (7 : Nat)) fun i17 =>
                          rd o8 fun a18 =>
                            ((0 : Int) ≤ i17 ∧ i17 < (↑n9 : Int)) ∧
                              rd (World.cell? w14 (Addr.add a18 (Int.toNat i17 * (1 : Nat)))) fun v19 =>
                                isStr v19 fun x20 =>
                                  callV Try.prog (13 : Nat) [Value.pointer o5, Value.string x20] w14 fun v21 w22 =>
                                    isTup v21 fun l23 =>
                                      rd l23[(0 : Nat)]? fun v24 =>
                                        isStr v24 fun x25 =>
                                          isTup v21 fun l26 =>
                                            rd l26[(1 : Nat)]? fun v27 =>
                                              isB v27 fun t28 =>
                                                isK IntKind.i64 (u13 (7 : Nat)) fun i29 =>
                                                  br (!decide (t28 = decide (IntKind.wrap IntKind.i64 ((1 : Int) + Int.tmod (andI IntKind.i64 a (65535 : Int)) (30 : Int)) ≤ i29)))
                                                    (R (Value.bool false) w22)
                                                    (br t28
                                                      (isK IntKind.i64 (u13 (7 : Nat)) fun i30 =>
                                                        rd o8 fun a31 =>
                                                          ((0 : Int) ≤
                                                                IntKind.wrap IntKind.i64
                                                                  (i30 - IntKind.wrap IntKind.i64 ((1 : Int) + Int.tmod (andI IntKind.i64 a (65535 : Int)) (30 : Int))) ∧
                                                              IntKind.wrap IntKind.i64
                                                                  (i30 - IntKind.wrap IntKind.i64 ((1 : Int) + Int.tmod (andI IntKind.i64 a (65535 : Int)) (30 : Int))) <
                                                                (↑n9 : Int)) ∧
                                                            rd
                                                              (World.cell? w22
                                                                (Addr.add a31
                                                                  (Int.toNat
                                                                      (IntKind.wrap IntKind.i64
                                                                        (i30 - IntKind.wrap IntKind.i64 ((1 : Int) + Int.tmod (andI IntKind.i64 a (65535 : Int)) (30 : Int)))) *
                                                                    (1 : Nat))))
                                                              fun v32 =>
                                                              isStr v32 fun x33 =>
                                                                br (!decide (x25 = x33)) (R (Value.bool false) w22)
                                                                  (br (!t28)
                                                                    (br (!decide (x25 = { data := #[] : ByteArray })) (R (Value.bool false) w22)
                                                                      (callV Try.prog (14 : Nat) [Value.pointer o5] w22 fun v34 w35 =>
                                                                        isK IntKind.i64 v34 fun i36 =>
                                                                          isK IntKind.i64 (u13 (7 : Nat)) fun i37 =>
                                                                            br
                                                                              (!decide
                                                                                  (i36 =
                                                                                    min (IntKind.wrap IntKind.i64 (i37 + (1 : Int)))
                                                                                      (IntKind.wrap IntKind.i64
                                                                                        ((1 : Int) + Int.tmod (andI IntKind.i64 a (65535 : Int)) (30 : Int)))))
                                                                              (R (Value.bool false) w35)
                                                                              (callV Try.prog (14 : Nat) [Value.pointer o5] w35 fun v38 w39 =>
                                                                                isK IntKind.i64 v38 fun i40 =>
                                                                                  callV Try.prog (15 : Nat)
                                                                                    [Value.pointer o5, Value.int IntKind.i64 (IntKind.wrap IntKind.i64 (i40 - (1 : Int)))] w39
                                                                                    fun v41 w42 =>
                                                                                    isTup v41 fun l43 =>
                                                                                      rd l43[(0 : Nat)]? fun v44 =>
                                                                                        isStr v44 fun x45 =>
                                                                                          isTup v41 fun l46 =>
                                                                                            rd l46[(1 : Nat)]? fun v47 =>
                                                                                              isB v47 fun t48 =>
                                                                                                br (!t48) (R (Value.bool false) w42)
                                                                                                  (isK IntKind.i64 (u13 (7 : Nat)) fun i49 =>
                                                                                                    rd o8 fun a50 =>
                                                                                                      ((0 : Int) ≤ i49 ∧ i49 < (↑n9 : Int)) ∧
                                                                                                        rd (World.cell? w42 (Addr.add a50 (Int.toNat i49 * (1 : Nat)))) fun v51 =>
                                                                                                          isStr v51 fun x52 =>
                                                                                                            br (!decide (x45 = x52)) (R (Value.bool false) w42)
                                                                                                              (isK IntKind.i64 (u13 (7 : Nat)) fun i53 =>
                                                                                                                again u11 u12
                                                                                                                  (alist
                                                                                                                    [((7 : Nat),
                                                                                                                        Value.int IntKind.i64
                                                                                                                          (IntKind.wrap IntKind.i64 (i53 + (1 : Int))))])
                                                                                                                  w42 (alist [((7 : Nat), u13 (7 : Nat))]) w14)))))
                                                                    (callV Try.prog (14 : Nat) [Value.pointer o5] w22 fun v54 w55 =>
                                                                      isK IntKind.i64 v54 fun i56 =>
                                                                        isK IntKind.i64 (u13 (7 : Nat)) fun i57 =>
                                                                          br
                                                                            (!decide
                                                                                (i56 =
                                                                                  min (IntKind.wrap IntKind.i64 (i57 + (1 : Int)))
                                                                                    (IntKind.wrap IntKind.i64
                                                                                      ((1 : Int) + Int.tmod (andI IntKind.i64 a (65535 : Int)) (30 : Int)))))
                                                                            (R (Value.bool false) w55)
                                                                            (callV Try.prog (14 : Nat) [Value.pointer o5] w55 fun v58 w59 =>
                                                                              isK IntKind.i64 v58 fun i60 =>
                                                                                callV Try.prog (15 : Nat)
                                                                                  [Value.pointer o5, Value.int IntKind.i64 (IntKind.wrap IntKind.i64 (i60 - (1 : Int)))] w59
                                                                                  fun v61 w62 =>
                                                                                  isTup v61 fun l63 =>
                                                                                    rd l63[(0 : Nat)]? fun v64 =>
                                                                                      isStr v64 fun x65 =>
                                                                                        isTup v61 fun l66 =>
                                                                                          rd l66[(1 : Nat)]? fun v67 =>
                                                                                            isB v67 fun t68 =>
                                                                                              br (!t68) (R (Value.bool false) w62)
                                                                                                (isK IntKind.i64 (u13 (7 : Nat)) fun i69 =>
                                                                                                  rd o8 fun a70 =>
                                                                                                    ((0 : Int) ≤ i69 ∧ i69 < (↑n9 : Int)) ∧
                                                                                                      rd (World.cell? w62 (Addr.add a70 (Int.toNat i69 * (1 : Nat)))) fun v71 =>
                                                                                                        isStr v71 fun x72 =>
                                                                                                          br (!decide (x65 = x72)) (R (Value.bool false) w62)
                                                                                                            (isK IntKind.i64 (u13 (7 : Nat)) fun i73 =>
                                                                                                              again u11 u12
                                                                                                                (alist
                                                                                                                  [((7 : Nat),
                                                                                                                      Value.int IntKind.i64
                                                                                                                        (IntKind.wrap IntKind.i64 (i73 + (1 : Int))))])
                                                                                                                w62 (alist [((7 : Nat), u13 (7 : Nat))]) w14))))))
                                                      (br (!t28)
                                                        (br (!decide (x25 = { data := #[] : ByteArray })) (R (Value.bool false) w22)
                                                          (callV Try.prog (14 : Nat) [Value.pointer o5] w22 fun v74 w75 =>
                                                            isK IntKind.i64 v74 fun i76 =>
                                                              isK IntKind.i64 (u13 (7 : Nat)) fun i77 =>
                                                                br
                                                                  (!decide
                                                                      (i76 =
                                                                        min (IntKind.wrap IntKind.i64 (i77 + (1 : Int)))
                                                                          (IntKind.wrap IntKind.i64 ((1 : Int) + Int.tmod (andI IntKind.i64 a (65535 : Int)) (30 : Int)))))
                                                                  (R (Value.bool false) w75)
                                                                  (callV Try.prog (14 : Nat) [Value.pointer o5] w75 fun v78 w79 =>
                                                                    isK IntKind.i64 v78 fun i80 =>
                                                                      callV Try.prog (15 : Nat)
                                                                        [Value.pointer o5, Value.int IntKind.i64 (IntKind.wrap IntKind.i64 (i80 - (1 : Int)))] w79 fun v81 w82 =>
                                                                        isTup v81 fun l83 =>
                                                                          rd l83[(0 : Nat)]? fun v84 =>
                                                                            isStr v84 fun x85 =>
                                                                              isTup v81 fun l86 =>
                                                                                rd l86[(1 : Nat)]? fun v87 =>
                                                                                  isB v87 fun t88 =>
                                                                                    br (!t88) (R (Value.bool false) w82)
                                                                                      (isK IntKind.i64 (u13 (7 : Nat)) fun i89 =>
                                                                                        rd o8 fun a90 =>
                                                                                          ((0 : Int) ≤ i89 ∧ i89 < (↑n9 : Int)) ∧
                                                                                            rd (World.cell? w82 (Addr.add a90 (Int.toNat i89 * (1 : Nat)))) fun v91 =>
                                                                                              isStr v91 fun x92 =>
                                                                                                br (!decide (x85 = x92)) (R (Value.bool false) w82)
                                                                                                  (isK IntKind.i64 (u13 (7 : Nat)) fun i93 =>
                                                                                                    again u11 u12
                                                                                                      (alist
                                                                                                        [((7 : Nat),
                                                                                                            Value.int IntKind.i64 (IntKind.wrap IntKind.i64 (i93 + (1 : Int))))])
                                                                                                      w82 (alist [((7 : Nat), u13 (7 : Nat))]) w14)))))
                                                        (callV Try.prog (14 : Nat) [Value.pointer o5] w22 fun v94 w95 =>
                                                          isK IntKind.i64 v94 fun i96 =>
                                                            isK IntKind.i64 (u13 (7 : Nat)) fun i97 =>
                                                              br
                                                                (!decide
                                                                    (i96 =
                                                                      min (IntKind.wrap IntKind.i64 (i97 + (1 : Int)))
                                                                        (IntKind.wrap IntKind.i64 ((1 : Int) + Int.tmod (andI IntKind.i64 a (65535 : Int)) (30 : Int)))))
                                                                (R (Value.bool false) w95)
                                                                (callV Try.prog (14 : Nat) [Value.pointer o5] w95 fun v98 w99 =>
                                                                  isK IntKind.i64 v98 fun i100 =>
                                                                    callV Try.prog (15 : Nat)
                                                                      [Value.pointer o5, Value.int IntKind.i64 (IntKind.wrap IntKind.i64 (i100 - (1 : Int)))] w99 fun v101 w102 =>
                                                                      isTup v101 fun l103 =>
                                                                        rd l103[(0 : Nat)]? fun v104 =>
                                                                          isStr v104 fun x105 =>
                                                                            isTup v101 fun l106 =>
                                                                              rd l106[(1 : Nat)]? fun v107 =>
                                                                                isB v107 fun t108 =>
                                                                                  br (!t108) (R (Value.bool false) w102)
                                                                                    (isK IntKind.i64 (u13 (7 : Nat)) fun i109 =>
                                                                                      rd o8 fun a110 =>
                                                                                        ((0 : Int) ≤ i109 ∧ i109 < (↑n9 : Int)) ∧
                                                                                          rd (World.cell? w102 (Addr.add a110 (Int.toNat i109 * (1 : Nat)))) fun v111 =>
                                                                                            isStr v111 fun x112 =>
                                                                                              br (!decide (x105 = x112)) (R (Value.bool false) w102)
                                                                                                (isK IntKind.i64 (u13 (7 : Nat)) fun i113 =>
                                                                                                  again u11 u12
                                                                                                    (alist
                                                                                                      [((7 : Nat),
                                                                                                          Value.int IntKind.i64 (IntKind.wrap IntKind.i64 (i113 + (1 : Int))))])
                                                                                                    w102 (alist [((7 : Nat), u13 (7 : Nat))]) w14)))))))
                        (R (Value.bool t2) w14))) :
  callV Try.prog 3 [Value.int IntKind.i64 a, Value.slice bp bn bc] w R :=
  vc_of hm ⟨fun _ => false, fun _ => .done, fun n => match n with | 8 => [7] | _ => []⟩ Try.func3 ent3 (by kernel_rfl) h

theorem vc4 (a : Int) (bp : Option Addr) (bn : Nat) (bc : Nat) (w : World) (R : Value → World → Prop)
  (h : callV Try.prog (11 : Nat) [] w fun v0 w1 =>
  isB v0 fun t2 =>
    callV Try.prog (16 : Nat) [Value.int IntKind.i64 (IntKind.wrap IntKind.i64 ((1 : Int) + Int.tmod (andI IntKind.i64 a (65535 : Int)) (20 : Int)))] w1 fun v3 w4 =>
      isP v3 fun o5 =>
        br (Option.isNone o5) (R (Value.bool false) w4)
          (loopC (alist [((7 : Nat), Value.int IntKind.i64 (0 : Int)), ((8 : Nat), Value.int IntKind.i64 (0 : Int))]) w4 fun u6 u7 =>
            ∀ (u8 : Nat → Value) (w9 : World),
              u6 (alist [((7 : Nat), u8 (7 : Nat)), ((8 : Nat), u8 (8 : Nat))]) w9 →
                isK IntKind.i64 (u8 (8 : Nat)) fun i11 =>
                  br (decide (i11 < (↑bn : Int)))
                    (isK IntKind.i64 (u8 (8 : Nat)) fun i12 =>
                      br (decide (i12 < (100 : Int)))
                        (callV Try.prog (17 : Nat) [Value.pointer o5] w9 fun v13 w14 =>
                          isK IntKind.i64 v13 fun i15 =>
                            isK IntKind.i64 (u8 (8 : Nat)) fun i16 =>
                              callV Try.prog (18 : Nat) [Value.pointer o5, Value.int IntKind.i64 i16] w14 fun v17 w18 =>
                                isTup v17 fun l19 =>
                                  rd l19[(0 : Nat)]? fun v20 =>
                                    isK IntKind.i64 v20 fun i21 =>
                                      isTup v17 fun l22 =>
                                        rd l22[(1 : Nat)]? fun v23 =>
                                          isK IntKind.i64 v23 fun i24 =>
                                            cutC
                                              (fun u25 =>
                                                br
                                                  (!decide
                                                      (decide (i24 = (0 : Int)) =
                                                        decide (i15 < IntKind.wrap IntKind.i64 ((1 : Int) + Int.tmod (andI IntKind.i64 a (65535 : Int)) (20 : Int)))))
                                                  (R (Value.bool false) w18)
                                                  (br (decide (i24 = (0 : Int)))
                                                    (isK IntKind.i64 (u8 (7 : Nat)) fun i26 =>
                                                      br (!decide (i21 = IntKind.wrap IntKind.i64 (i26 + (1 : Int)))) (R (Value.bool false) w18)
                                                        (br (!decide (i24 = (0 : Int)))
                                                          (br (!decide (i21 = (0 : Int))) (R (Value.bool false) w18)
                                                            (br (!decide (i24 = (5 : Int))) (R (Value.bool false) w18) (u25 (alist []) w18)))
                                                          (u25 (alist []) w18)))
                                                    (br (!decide (i24 = (0 : Int)))
                                                      (br (!decide (i21 = (0 : Int))) (R (Value.bool false) w18)
                                                        (br (!decide (i24 = (5 : Int))) (R (Value.bool false) w18) (u25 (alist []) w18)))
                                                      (u25 (alist []) w18))))
                                              fun u27 =>
                                              ∀ (u28 : Nat → Value) (w29 : World),
                                                u27 (alist []) w29 →
                                                  isK IntKind.i64 (u8 (7 : Nat)) fun i31 =>
                                                    isK IntKind.i64 (u8 (8 : Nat)) fun i32 =>
                                                      rd bp fun a33 =>
                                                        ((0 : Int) ≤ i32 ∧ i32 < (↑bn : Int)) ∧
                                                          rd (World.cell? w29 (Addr.add a33 (Int.toNat i32 * (1 : Nat)))) fun v34 =>
                                                            isK IntKind.i64 v34 fun i35 =>
                                                              rd
                                                                (orO
                                                                  (binV BinOp.rem (Value.int IntKind.i64 (andI IntKind.i64 i35 (65535 : Int)))
                                                                    (Value.int IntKind.i64 (IntKind.wrap IntKind.i64 (max i31 i21 + (2 : Int)))))
                                                                  none)
                                                                fun v36 =>
                                                                isK IntKind.i64 v36 fun i37 =>
                                                                  callV Try.prog (19 : Nat) [Value.pointer o5, Value.int IntKind.i64 i37] w29 fun v38 w39 =>
                                                                    isTup v38 fun l40 =>
                                                                      rd l40[(0 : Nat)]? fun v41 =>
                                                                        isK IntKind.i64 v41 fun i42 =>
                                                                          isTup v38 fun l43 =>
                                                                            rd l43[(1 : Nat)]? fun v44 =>
                                                                              isB v44 fun t45 =>
                                                                                callV Try.prog (20 : Nat) [Value.pointer o5, Value.int IntKind.i64 i37] w39 fun v46 w47 =>
                                                                                  isB v46 fun t48 =>
                                                                                    callV Try.prog (19 : Nat) [Value.pointer o5, Value.int IntKind.i64 i37] w47 fun v49 w50 =>
                                                                                      isTup v49 fun l51 =>
                                                                                        rd l51[(0 : Nat)]? fun v52 =>
                                                                                          isK IntKind.i64 v52 fun i53 =>
                                                                                            isTup v49 fun l54 =>
                                                                                              rd l54[(1 : Nat)]? fun v55 =>
                                                                                                isB v55 fun t56 =>
                                                                                                  br (!decide (t48 = t45)) (R (Value.bool false) w50)
                                                                                                    (br t56 (R (Value.bool false) w50)
                                                                                                      (callV Try.prog (21 : Nat)
                                                                                                        [Value.pointer o5, Value.int IntKind.i64 i37,
                                                                                                          Value.int IntKind.i64 (5 : Int)]
                                                                                                        w50 fun v57 w58 =>
                                                                                                        isB v57 fun t59 =>
                                                                                                          br t59 (R (Value.bool false) w58)
                                                                                                            (callV Try.prog (20 : Nat) [Value.pointer o5, Value.int IntKind.i64 i37]
                                                                                                              w58 fun v60 w61 =>
                                                                                                              isB v60 fun t62 =>
                                                                                                                br t62 (R (Value.bool false) w61)
                                                                                                                  (isK IntKind.i64 (u8 (8 : Nat)) fun i63 =>
                                                                                                                    again u6 u7
                                                                                                                      (alist
                                                                                                                        [((7 : Nat), Value.int IntKind.i64 (max i31 i21)),
                                                                                                                          ((8 : Nat),
                                                                                                                            Value.int IntKind.i64
                                                                                                                              (IntKind.wrap IntKind.i64 (i63 + (1 : Int))))])
                                                                                                                      w61
                                                                                                                      (alist [((7 : Nat), u8 (7 : Nat)), ((8 : Nat), u8 (8 : Nat))])
                                                                                                                      w9)))))
                        (R (Value.bool t2) w9))
                    (R (Value.bool t2) w9))) :
  callV Try.prog 4 [Value.int IntKind.i64 a, Value.slice bp bn bc] w R :=
  vc_of hm ⟨fun n => match n with | 14 => true | _ => false, fun _ => .done, fun n => match n with | 8 => [7, 8] | 14 => [] | _ => []⟩ Try.func4 ent4 (by kernel_rfl) h

theorem vc5 (a : Int) (bp : Option Addr) (bn : Nat) (bc : Nat) (w : World) (R : Value → World → Prop)
  (h : callV Try.prog (11 : Nat) [] w fun v0 w1 =>
  isB v0 fun t2 =>
    callV Try.prog (22 : Nat) [Value.int IntKind.i64 (IntKind.wrap IntKind.i64 ((1 : Int) + Int.tmod (andI IntKind.i64 a (65535 : Int)) (30 : Int)))] w1 fun v3 w4 =>
      isP v3 fun o5 =>
        br (Option.isNone o5) (R (Value.bool false) w4)
          (cutC
            (fun u6 =>
              loopC (alist [((7 : Nat), Value.int IntKind.i64 (0 : Int))]) w4 fun u7 u8 =>
                ∀ (u9 : Nat → Value) (w10 : World),
                  u7 (alist [((7 : Nat), u9 (7 : Nat))]) w10 →
                    isK IntKind.i64 (u9 (7 : Nat)) fun i12 =>
                      br (decide (i12 < IntKind.wrap IntKind.i64 ((1 : Int) + Int.tmod (andI IntKind.i64 a (65535 : Int)) (30 : Int))))
                        (callV Try.prog (23 : Nat) [Value.pointer o5, Value.string { data := #[(97 : UInt8)] : ByteArray }] w10 fun v13 w14 =>
                          isTup v13 fun l15 =>
                            rd l15[(0 : Nat)]? fun v16 =>
                              isK IntKind.i64 v16 fun i17 =>
                                isTup v13 fun l18 =>
                                  rd l18[(1 : Nat)]? fun v19 =>
                                    isK IntKind.i64 v19 fun i20 =>
                                      br (!decide (i20 = (0 : Int))) (R (Value.bool false) w14)
                                        (isK IntKind.i64 (u9 (7 : Nat)) fun i21 =>
                                          again u7 u8 (alist [((7 : Nat), Value.int IntKind.i64 (IntKind.wrap IntKind.i64 (i21 + (1 : Int))))]) w14
                                            (alist [((7 : Nat), u9 (7 : Nat))]) w10))
                        (u6 (alist []) w10))
            fun u22 =>
            ∀ (u23 : Nat → Value) (w24 : World),
              u22 (alist []) w24 →
                callV Try.prog (23 : Nat) [Value.pointer o5, Value.string { data := #[(98 : UInt8)] : ByteArray }] w24 fun v26 w27 =>
                  isTup v26 fun l28 =>
                    rd l28[(0 : Nat)]? fun v29 =>
                      isK IntKind.i64 v29 fun i30 =>
                        isTup v26 fun l31 =>
                          rd l31[(1 : Nat)]? fun v32 =>
                            isK IntKind.i64 v32 fun i33 =>
                              loopC (alist [((12 : Nat), Value.int IntKind.i64 (0 : Int)), ((13 : Nat), Value.int IntKind.i64 (0 : Int))]) w27 fun u34 u35 =>
                                ∀ (u36 : Nat → Value) (w37 : World),
                                  u34 (alist [((12 : Nat), u36 (12 : Nat)), ((13 : Nat), u36 (13 : Nat))]) w37 →
                                    isK IntKind.i64 (u36 (13 : Nat)) fun i39 =>
                                      br (decide (i39 < (↑bn : Int)))
                                        (isK IntKind.i64 (u36 (13 : Nat)) fun i40 =>
                                          br (decide (i40 < (60 : Int)))
                                            (isK IntKind.i64 (u36 (13 : Nat)) fun i41 =>
                                              rd bp fun a42 =>
                                                ((0 : Int) ≤ i41 ∧ i41 < (↑bn : Int)) ∧
                                                  rd (World.cell? w37 (Addr.add a42 (Int.toNat i41 * (1 : Nat)))) fun v43 =>
                                                    isK IntKind.u8 v43 fun i44 =>
                                                      rd
                                                        (orO
                                                          (binV BinOp.rem (Value.int IntKind.i64 (IntKind.wrap IntKind.i64 i44))
                                                            (Value.int IntKind.i64 (IntKind.wrap IntKind.i64 ((1 : Int) + Int.tmod (andI IntKind.i64 a (65535 : Int)) (30 : Int)))))
                                                          none)
                                                        fun v45 =>
                                                        isK IntKind.i64 v45 fun i46 =>
                                                          callV Try.prog (24 : Nat) [Value.pointer o5, Value.int IntKind.i64 (IntKind.wrap IntKind.i64 ((1 : Int) + i46))] w37
                                                            fun v47 w48 =>
                                                            isB v47 fun t49 =>
                                                              br t49
                                                                (isK IntKind.i64 (u36 (12 : Nat)) fun i50 =>
                                                                  callV Try.prog (25 : Nat)
                                                                    [Value.pointer o5, Value.int IntKind.i64 (IntKind.wrap IntKind.i64 ((1 : Int) + i46)),
                                                                      Value.string { data := #[(99 : UInt8)] : ByteArray }]
                                                                    w48 fun v51 w52 =>
                                                                    isB v51 fun t53 =>
                                                                      br t53 (R (Value.bool false) w52)
                                                                        (isK IntKind.i64 (u36 (13 : Nat)) fun i54 =>
                                                                          again u34 u35
                                                                            (alist
                                                                              [((12 : Nat), Value.int IntKind.i64 (IntKind.wrap IntKind.i64 (i50 + (1 : Int)))),
                                                                                ((13 : Nat), Value.int IntKind.i64 (IntKind.wrap IntKind.i64 (i54 + (1 : Int))))])
                                                                            w52 (alist [((12 : Nat), u36 (12 : Nat)), ((13 : Nat), u36 (13 : Nat))]) w37))
                                                                (callV Try.prog (25 : Nat)
                                                                  [Value.pointer o5, Value.int IntKind.i64 (IntKind.wrap IntKind.i64 ((1 : Int) + i46)),
                                                                    Value.string { data := #[(99 : UInt8)] : ByteArray }]
                                                                  w48 fun v55 w56 =>
                                                                  isB v55 fun t57 =>
                                                                    br t57 (R (Value.bool false) w56)
                                                                      (isK IntKind.i64 (u36 (13 : Nat)) fun i58 =>
                                                                        again u34 u35
                                                                          (alist
                                                                            [((12 : Nat), u36 (12 : Nat)),
                                                                              ((13 : Nat), Value.int IntKind.i64 (IntKind.wrap IntKind.i64 (i58 + (1 : Int))))])
                                                                          w56 (alist [((12 : Nat), u36 (12 : Nat)), ((13 : Nat), u36 (13 : Nat))]) w37)))
                                            (loopC (alist [((15 : Nat), Value.int IntKind.i64 (0 : Int))]) w37 fun u59 u60 =>
                                              ∀ (u61 : Nat → Value) (w62 : World),
                                                u59 (alist [((15 : Nat), u61 (15 : Nat))]) w62 →
                                                  isK IntKind.i64 (u61 (15 : Nat)) fun i64 =>
                                                    isK IntKind.i64 (u36 (12 : Nat)) fun i65 =>
                                                      br (decide (i64 < i65))
                                                        (callV Try.prog (23 : Nat) [Value.pointer o5, Value.string { data := #[(100 : UInt8)] : ByteArray }] w62 fun v66 w67 =>
                                                          isTup v66 fun l68 =>
                                                            rd l68[(0 : Nat)]? fun v69 =>
                                                              isK IntKind.i64 v69 fun i70 =>
                                                                isTup v66 fun l71 =>
                                                                  rd l71[(1 : Nat)]? fun v72 =>
                                                                    isK IntKind.i64 v72 fun i73 =>
                                                                      br (!decide (i73 = (0 : Int))) (R (Value.bool false) w67)
                                                                        (isK IntKind.i64 (u61 (15 : Nat)) fun i74 =>
                                                                          br
                                                                            (!decide
                                                                                (i70 =
                                                                                  IntKind.wrap IntKind.i64
                                                                                    (IntKind.wrap IntKind.i64
                                                                                        (IntKind.wrap IntKind.i64
                                                                                            ((1 : Int) + Int.tmod (andI IntKind.i64 a (65535 : Int)) (30 : Int)) +
                                                                                          (1 : Int)) +
                                                                                      i74)))
                                                                            (R (Value.bool false) w67)
                                                                            (isK IntKind.i64 (u61 (15 : Nat)) fun i75 =>
                                                                              again u59 u60
                                                                                (alist [((15 : Nat), Value.int IntKind.i64 (IntKind.wrap IntKind.i64 (i75 + (1 : Int))))]) w67
                                                                                (alist [((15 : Nat), u61 (15 : Nat))]) w62)))
                                                        (callV Try.prog (23 : Nat) [Value.pointer o5, Value.string { data := #[(101 : UInt8)] : ByteArray }] w62 fun v76 w77 =>
                                                          isTup v76 fun l78 =>
                                                            rd l78[(0 : Nat)]? fun v79 =>
                                                              isK IntKind.i64 v79 fun i80 =>
                                                                isTup v76 fun l81 =>
                                                                  rd l81[(1 : Nat)]? fun v82 =>
                                                                    isK IntKind.i64 v82 fun i83 =>
                                                                      br t2
                                                                        (br (decide (i33 = (5 : Int)))
                                                                          (br (decide (i83 = (5 : Int)))
                                                                            (callV Try.prog (26 : Nat) [Value.pointer o5] w77 fun v84 w85 =>
                                                                              isK IntKind.i64 v84 fun i86 =>
                                                                                R
                                                                                  (Value.bool
                                                                                    (decide
                                                                                      (i86 =
                                                                                        IntKind.wrap IntKind.i64
                                                                                          ((1 : Int) + Int.tmod (andI IntKind.i64 a (65535 : Int)) (30 : Int)))))
                                                                                  w85)
                                                                            (R (Value.bool false) w77))
                                                                          (R (Value.bool false) w77))
                                                                        (R (Value.bool false) w77))))
                                        (loopC (alist [((15 : Nat), Value.int IntKind.i64 (0 : Int))]) w37 fun u87 u88 =>
                                          ∀ (u89 : Nat → Value) (w90 : World),
                                            u87 (alist [((15 : Nat), u89 (15 : Nat))]) w90 →
                                              isK IntKind.i64 (u89 (15 : Nat)) fun i92 =>
                                                isK IntKind.i64 (u36 (12 : Nat)) fun i93 =>
                                                  br (decide (i92 < i93))
                                                    (callV Try.prog (23 : Nat) [Value.pointer o5, Value.string { data := #[(100 : UInt8)] : ByteArray }] w90 fun v94 w95 =>
                                                      isTup v94 fun l96 =>
                                                        rd l96[(0 : Nat)]? fun v97 =>
                                                          isK IntKind.i64 v97 fun i98 =>
                                                            isTup v94 fun l99 =>
                                                              rd l99[(1 : Nat)]? fun v100 =>
                                                                isK IntKind.i64 v100 fun i101 =>
                                                                  br (!decide (i101 = (0 : Int))) (R (Value.bool false) w95)
                                                                    (isK IntKind.i64 (u89 (15 : Nat)) fun i102 =>
                                                                      br
                                                                        (!decide
                                                                            (i98 =
                                                                              IntKind.wrap IntKind.i64
                                                                                (IntKind.wrap IntKind.i64
                                                                                    (IntKind.wrap IntKind.i64 ((1 : Int) + Int.tmod (andI IntKind.i64 a (65535 : Int)) (30 : Int)) +
                                                                                      (1 : Int)) +
                                                                                  i102)))
                                                                        (R (Value.bool false) w95)
                                                                        (isK IntKind.i64 (u89 (15 : Nat)) fun i103 =>
                                                                          again u87 u88 (alist [((15 : Nat), Value.int IntKind.i64 (IntKind.wrap IntKind.i64 (i103 + (1 : Int))))])
                                                                            w95 (alist [((15 : Nat), u89 (15 : Nat))]) w90)))
                                                    (callV Try.prog (23 : Nat) [Value.pointer o5, Value.string { data := #[(101 : UInt8)] : ByteArray }] w90 fun v104 w105 =>
                                                      isTup v104 fun l106 =>
                                                        rd l106[(0 : Nat)]? fun v107 =>
                                                          isK IntKind.i64 v107 fun i108 =>
                                                            isTup v104 fun l109 =>
                                                              rd l109[(1 : Nat)]? fun v110 =>
                                                                isK IntKind.i64 v110 fun i111 =>
                                                                  br t2
                                                                    (br (decide (i33 = (5 : Int)))
                                                                      (br (decide (i111 = (5 : Int)))
                                                                        (callV Try.prog (26 : Nat) [Value.pointer o5] w105 fun v112 w113 =>
                                                                          isK IntKind.i64 v112 fun i114 =>
                                                                            R
                                                                              (Value.bool
                                                                                (decide
                                                                                  (i114 =
                                                                                    IntKind.wrap IntKind.i64 ((1 : Int) + Int.tmod (andI IntKind.i64 a (65535 : Int)) (30 : Int)))))
                                                                              w113)
                                                                        (R (Value.bool false) w105))
                                                                      (R (Value.bool false) w105))
                                                                    (R (Value.bool false) w105))))) :
  callV Try.prog 5 [Value.int IntKind.i64 a, Value.slice bp bn bc] w R :=
  vc_of hm ⟨fun n => match n with | 12 => true | _ => false, fun _ => .done, fun n => match n with | 12 => [] | 7 => [7] | 15 => [12, 13] | 23 => [15] | _ => []⟩ Try.func5 ent5 (by kernel_rfl) h

end Go.Proofs.Ytlhgibiffekpfaa
