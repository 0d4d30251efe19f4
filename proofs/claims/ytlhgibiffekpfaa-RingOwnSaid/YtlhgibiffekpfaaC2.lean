/- The conditions of functions, written out: printed by a small program (VCDev.lean, vcgen.sh).  Conditions: none. -/
import Derived.Test.YtlhgibiffekpfaaTab
namespace Go.Proofs.Ytlhgibiffekpfaa
set_option linter.unusedSimpArgs false
set_option linter.unusedVariables false
open Go VC
theorem vc11 (w : World) (R : Value → World → Prop)
  (h : callV Try.prog (12 : Nat) [Value.int IntKind.i64 (2 : Int)] w fun v0 w1 =>
  isP v0 fun o2 =>
    callV Try.prog (22 : Nat) [Value.int IntKind.i64 (1 : Int)] w1 fun v3 w4 =>
      isP v3 fun o5 =>
        br (Option.isNone o2) (R (Value.bool false) w4)
          (br (Option.isNone o5) (R (Value.bool false) w4)
            (callV Try.prog (13 : Nat) [Value.pointer o2, Value.string { data := #[(97 : UInt8)] : ByteArray }] w4 fun v6 w7 =>
              callV Try.prog (13 : Nat) [Value.pointer o2, Value.string { data := #[(98 : UInt8)] : ByteArray }] w7 fun v8 w9 =>
                callV Try.prog (13 : Nat) [Value.pointer o2, Value.string { data := #[(99 : UInt8)] : ByteArray }] w9 fun v10 w11 =>
                  isTup v10 fun l12 =>
                    rd l12[(0 : Nat)]? fun v13 =>
                      isStr v13 fun x14 =>
                        isTup v10 fun l15 =>
                          rd l15[(1 : Nat)]? fun v16 =>
                            isB v16 fun t17 =>
                              callV Try.prog (15 : Nat) [Value.pointer o2, Value.int IntKind.i64 (0 : Int)] w11 fun v18 w19 =>
                                isTup v18 fun l20 =>
                                  rd l20[(0 : Nat)]? fun v21 =>
                                    isStr v21 fun x22 =>
                                      isTup v18 fun l23 =>
                                        rd l23[(1 : Nat)]? fun v24 =>
                                          isB v24 fun t25 =>
                                            callV Try.prog (23 : Nat) [Value.pointer o5, Value.string { data := #[(120 : UInt8)] : ByteArray }] w19 fun v26 w27 =>
                                              isTup v26 fun l28 =>
                                                rd l28[(0 : Nat)]? fun v29 =>
                                                  isK IntKind.i64 v29 fun i30 =>
                                                    isTup v26 fun l31 =>
                                                      rd l31[(1 : Nat)]? fun v32 =>
                                                        isK IntKind.i64 v32 fun i33 =>
                                                          callV Try.prog (23 : Nat) [Value.pointer o5, Value.string { data := #[(121 : UInt8)] : ByteArray }] w27 fun v34 w35 =>
                                                            isTup v34 fun l36 =>
                                                              rd l36[(0 : Nat)]? fun v37 =>
                                                                isK IntKind.i64 v37 fun i38 =>
                                                                  isTup v34 fun l39 =>
                                                                    rd l39[(1 : Nat)]? fun v40 =>
                                                                      isK IntKind.i64 v40 fun i41 =>
                                                                        callV Try.prog (24 : Nat) [Value.pointer o5, Value.int IntKind.i64 i30] w35 fun v42 w43 =>
                                                                          isB v42 fun t44 =>
                                                                            callV Try.prog (23 : Nat) [Value.pointer o5, Value.string { data := #[(122 : UInt8)] : ByteArray }] w43
                                                                              fun v45 w46 =>
                                                                              isTup v45 fun l47 =>
                                                                                rd l47[(0 : Nat)]? fun v48 =>
                                                                                  isK IntKind.i64 v48 fun i49 =>
                                                                                    isTup v45 fun l50 =>
                                                                                      rd l50[(1 : Nat)]? fun v51 =>
                                                                                        isK IntKind.i64 v51 fun i52 =>
                                                                                          callV Try.prog (41 : Nat) [Value.pointer o5, Value.int IntKind.i64 i49] w46 fun v53 w54 =>
                                                                                            isTup v53 fun l55 =>
                                                                                              rd l55[(0 : Nat)]? fun v56 =>
                                                                                                isStr v56 fun x57 =>
                                                                                                  isTup v53 fun l58 =>
                                                                                                    rd l58[(1 : Nat)]? fun v59 =>
                                                                                                      isB v59 fun t60 =>
                                                                                                        br (decide (x14 = { data := #[(97 : UInt8)] : ByteArray }))
                                                                                                          (br t17
                                                                                                            (br (decide (x22 = { data := #[(98 : UInt8)] : ByteArray }))
                                                                                                              (br t25
                                                                                                                (callV Try.prog (14 : Nat) [Value.pointer o2] w54 fun v61 w62 =>
                                                                                                                  isK IntKind.i64 v61 fun i63 =>
                                                                                                                    br (decide (i63 = (2 : Int)))
                                                                                                                      (br (decide (i30 = (1 : Int)))
                                                                                                                        (br (decide (i33 = (0 : Int)))
                                                                                                                          (br (decide (i41 = (5 : Int)))
                                                                                                                            (br (decide (i49 = (2 : Int)))
                                                                                                                              (br (decide (i52 = (0 : Int)))
                                                                                                                                (br
                                                                                                                                  (decide
                                                                                                                                    (x57 =
                                                                                                                                      { data := #[(122 : UInt8)] : ByteArray }))
                                                                                                                                  (br t60
                                                                                                                                    (callV Try.prog (26 : Nat) [Value.pointer o5]
                                                                                                                                      w62 fun v64 w65 =>
                                                                                                                                      isK IntKind.i64 v64 fun i66 =>
                                                                                                                                        R (Value.bool (decide (i66 = (1 : Int))))
                                                                                                                                          w65)
                                                                                                                                    (R (Value.bool false) w62))
                                                                                                                                  (R (Value.bool false) w62))
                                                                                                                                (R (Value.bool false) w62))
                                                                                                                              (R (Value.bool false) w62))
                                                                                                                            (R (Value.bool false) w62))
                                                                                                                          (R (Value.bool false) w62))
                                                                                                                        (R (Value.bool false) w62))
                                                                                                                      (R (Value.bool false) w62))
                                                                                                                (R (Value.bool false) w54))
                                                                                                              (R (Value.bool false) w54))
                                                                                                            (R (Value.bool false) w54))
                                                                                                          (R (Value.bool false) w54)))) :
  callV Try.prog 11 [] w R :=
  vc_of hm noHints Try.func11 ent11 (by kernel_rfl) h

end Go.Proofs.Ytlhgibiffekpfaa
