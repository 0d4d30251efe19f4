/- The conditions of functions, written out: printed by a small program (VCDev.lean, vcgen.sh).  Conditions: none. -/
import Derived.Test.YtfdbojnikoonbaaTab
namespace Go.Proofs.Ytfdbojnikoonbaa
set_option linter.unusedSimpArgs false
set_option linter.unusedVariables false
open Go VC
theorem vc3 (a : Int) (bp : Option Addr) (bn : Nat) (bc : Nat) (w : World) (R : Value → World → Prop)
  (h : callV Try.prog (7 : Nat) [] w fun v0 w1 =>
  isB v0 fun t2 =>
    callV Try.prog (8 : Nat) [] w1 fun v3 w4 =>
      isP v3 fun o5 =>
        br (Option.isNone o5) (R (Value.bool false) w4)
          (cutC
            (fun u6 =>
              loopC (alist [((7 : Nat), Value.int IntKind.u16 (0 : Int)), ((8 : Nat), Value.bool false), ((9 : Nat), Value.int IntKind.i64 (0 : Int))]) w4 fun u7 u8 =>
                ∀ (u9 : Nat → Value) (w10 : World),
                  u7 (alist [((7 : Nat), u9 (7 : Nat)), ((8 : Nat), u9 (8 : Nat)), ((9 : Nat), u9 (9 : Nat))]) w10 →
                    isK IntKind.i64 (u9 (9 : Nat)) fun i12 =>
                      br (decide (i12 < (↑bn : Int)))
                        (isK IntKind.i64 (u9 (9 : Nat)) fun i13 =>
                          br (decide (i13 < (200 : Int)))
                            (isK IntKind.i64 (u9 (9 : Nat)) fun i14 =>
                              rd bp fun a15 =>
                                ((0 : Int) ≤ i14 ∧ i14 < (↑bn : Int)) ∧
                                  rd (World.cell? w10 (Addr.add a15 (Int.toNat i14 * (1 : Nat)))) fun v16 =>
                                    isK IntKind.u16 v16 fun i17 =>
                                      isK IntKind.i64 (u9 (9 : Nat)) fun i18 =>
                                        callV Try.prog (9 : Nat)
                                          [Value.pointer o5, Value.int IntKind.i64 a, Value.int IntKind.u16 (andI IntKind.u16 i17 (4095 : Int)),
                                            Value.int IntKind.i64 (IntKind.wrap IntKind.i64 (i18 + (1 : Int)))]
                                          w10 fun v19 w20 =>
                                          isK IntKind.i64 v19 fun i21 =>
                                            cutC
                                              (fun u22 =>
                                                br (decide (i21 = (0 : Int)))
                                                  (isB (u9 (8 : Nat)) fun t23 =>
                                                    br (!t23)
                                                      (u22 (alist [((7 : Nat), Value.int IntKind.u16 (andI IntKind.u16 i17 (4095 : Int))), ((8 : Nat), Value.bool true)]) w20)
                                                      (isK IntKind.u16 (u9 (7 : Nat)) fun i24 =>
                                                        br (decide (i24 < andI IntKind.u16 i17 (4095 : Int)))
                                                          (u22 (alist [((7 : Nat), Value.int IntKind.u16 (andI IntKind.u16 i17 (4095 : Int))), ((8 : Nat), Value.bool true)]) w20)
                                                          (u22 (alist [((7 : Nat), u9 (7 : Nat)), ((8 : Nat), u9 (8 : Nat))]) w20)))
                                                  (u22 (alist [((7 : Nat), u9 (7 : Nat)), ((8 : Nat), u9 (8 : Nat))]) w20))
                                              fun u25 =>
                                              ∀ (u26 : Nat → Value) (w27 : World),
                                                u25 (alist [((7 : Nat), u26 (7 : Nat)), ((8 : Nat), u26 (8 : Nat))]) w27 →
                                                  callV Try.prog (10 : Nat) [Value.pointer o5] w27 fun v29 w30 =>
                                                    isK IntKind.i64 v29 fun i31 =>
                                                      br (decide ((64 : Int) < i31)) (R (Value.bool false) w30)
                                                        (isK IntKind.i64 (u9 (9 : Nat)) fun i32 =>
                                                          again u7 u8
                                                            (alist
                                                              [((7 : Nat), u26 (7 : Nat)), ((8 : Nat), u26 (8 : Nat)),
                                                                ((9 : Nat), Value.int IntKind.i64 (IntKind.wrap IntKind.i64 (i32 + (1 : Int))))])
                                                            w30 (alist [((7 : Nat), u9 (7 : Nat)), ((8 : Nat), u9 (8 : Nat)), ((9 : Nat), u9 (9 : Nat))]) w10))
                            (u6 (alist [((7 : Nat), u9 (7 : Nat))]) w10))
                        (u6 (alist [((7 : Nat), u9 (7 : Nat))]) w10))
            fun u33 =>
            ∀ (u34 : Nat → Value) (w35 : World),
              u33 (alist [((7 : Nat), u34 (7 : Nat))]) w35 →
                loopC (alist [((12 : Nat), Value.int IntKind.i64 (0 : Int))]) w35 fun u37 u38 =>
                  ∀ (u39 : Nat → Value) (w40 : World),
                    u37 (alist [((12 : Nat), u39 (12 : Nat))]) w40 →
                      isK IntKind.i64 (u39 (12 : Nat)) fun i42 =>
                        br (decide (i42 < (↑bn : Int)))
                          (isK IntKind.i64 (u39 (12 : Nat)) fun i43 =>
                            br (decide (i43 < (200 : Int)))
                              (cutC
                                (fun u44 =>
                                  isK IntKind.i64 (u39 (12 : Nat)) fun i45 =>
                                    rd bp fun a46 =>
                                      ((0 : Int) ≤ i45 ∧ i45 < (↑bn : Int)) ∧
                                        rd (World.cell? w40 (Addr.add a46 (Int.toNat i45 * (1 : Nat)))) fun v47 =>
                                          isK IntKind.u16 v47 fun i48 =>
                                            callV Try.prog (11 : Nat) [Value.pointer o5, Value.int IntKind.i64 a, Value.int IntKind.u16 (andI IntKind.u16 i48 (4095 : Int))] w40
                                              fun v49 w50 =>
                                              isTup v49 fun l51 =>
                                                rd l51[(0 : Nat)]? fun v52 =>
                                                  isK IntKind.i64 v52 fun i53 =>
                                                    isTup v49 fun l54 =>
                                                      rd l54[(1 : Nat)]? fun v55 =>
                                                        isK IntKind.i64 v55 fun i56 =>
                                                          isK IntKind.u16 (u34 (7 : Nat)) fun i57 =>
                                                            isK IntKind.u16 (u34 (7 : Nat)) fun i58 =>
                                                              br (decide (i58 < andI IntKind.u16 i48 (4095 : Int))) (R (Value.bool false) w50)
                                                                (br
                                                                  (!decide
                                                                      (decide (IntKind.wrap IntKind.u16 (i57 - andI IntKind.u16 i48 (4095 : Int)) < (64 : Int)) =
                                                                        decide (i56 = (0 : Int))))
                                                                  (R (Value.bool false) w50)
                                                                  (br (decide ((64 : Int) ≤ IntKind.wrap IntKind.u16 (i57 - andI IntKind.u16 i48 (4095 : Int))))
                                                                    (br (!decide (i56 = (7 : Int))) (R (Value.bool false) w50) (u44 (alist []) w50)) (u44 (alist []) w50))))
                                fun u59 =>
                                ∀ (u60 : Nat → Value) (w61 : World),
                                  u59 (alist []) w61 →
                                    isK IntKind.i64 (u39 (12 : Nat)) fun i63 =>
                                      again u37 u38 (alist [((12 : Nat), Value.int IntKind.i64 (IntKind.wrap IntKind.i64 (i63 + (1 : Int))))]) w61
                                        (alist [((12 : Nat), u39 (12 : Nat))]) w40)
                              (R (Value.bool t2) w40))
                          (R (Value.bool t2) w40))) :
  callV Try.prog 3 [Value.int IntKind.i64 a, Value.slice bp bn bc] w R :=
  vc_of hm ⟨fun n => match n with | 15 => true | 17 => true | 19 => true | _ => false, fun _ => .done, fun n => match n with | 17 => [7] | 8 => [7, 8, 9] | 15 => [7, 8] | 18 => [12] | 19 => [] | _ => []⟩ Try.func3 ent3 (by kernel_rfl) h

end Go.Proofs.Ytfdbojnikoonbaa
