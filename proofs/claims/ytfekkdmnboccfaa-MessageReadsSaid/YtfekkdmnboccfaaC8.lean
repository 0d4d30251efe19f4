/- The conditions of functions, written out: printed by a small program (VCDev.lean, vcgen.sh).  Conditions: none. -/
import Derived.Test.YtfekkdmnboccfaaTab
namespace Go.Proofs.Ytfekkdmnboccfaa
set_option linter.unusedSimpArgs false
set_option linter.unusedVariables false
open Go VC
theorem vc5 (ap : Option Addr) (an : Nat) (ac : Nat) (bp : Option Addr) (bn : Nat) (bc : Nat) (w : World) (R : Value → World → Prop)
  (h : callV Try.prog (12 : Nat) [] w fun v0 w1 =>
  isB v0 fun t2 =>
    callV Try.prog (13 : Nat) [Value.slice ap an ac] w1 fun v3 w4 =>
      isSl v3 fun o5 n6 n7 =>
        runs Try.prog (Instr.sliceAt (25 : Nat) (Value.slice bp bn bc) none (some (Value.int IntKind.i64 (min (↑bn : Int) (1300 : Int)))) none) w4 fun v8 w9 =>
          isSl v8 fun o10 n11 n12 =>
            callV Try.prog (14 : Nat) [Value.slice o5 n6 n7] w9 fun v13 w14 =>
              isTup v13 fun l15 =>
                rd l15[(0 : Nat)]? fun v16 =>
                  isSl v16 fun o17 n18 n19 =>
                    isTup v13 fun l20 =>
                      rd l20[(1 : Nat)]? fun v21 =>
                        isK IntKind.i64 v21 fun i22 =>
                          cutC
                            (fun u23 =>
                              br (decide (i22 = (0 : Int)))
                                (callV Try.prog (18 : Nat) [Value.slice o17 n18 n19] w14 fun v24 w25 =>
                                  isTup v24 fun l26 =>
                                    rd l26[(0 : Nat)]? fun v27 =>
                                      isSl v27 fun o28 n29 n30 =>
                                        isTup v24 fun l31 =>
                                          rd l31[(1 : Nat)]? fun v32 =>
                                            isK IntKind.i64 v32 fun i33 =>
                                              br (!decide (i33 = (0 : Int))) (R (Value.bool false) w25)
                                                (callV Try.prog (20 : Nat) [Value.slice o28 n29 n30, Value.slice o5 n6 n7] w25 fun v34 w35 =>
                                                  isB v34 fun t36 =>
                                                    br (!t36) (R (Value.bool false) w35)
                                                      (br (decide ((1024 : Int) < (↑n18 : Int))) (R (Value.bool false) w35) (u23 (alist []) w35))))
                                (u23 (alist []) w14))
                            fun u37 =>
                            ∀ (u38 : Nat → Value) (w39 : World),
                              u37 (alist []) w39 →
                                callV Try.prog (18 : Nat) [Value.slice o10 n11 n12] w39 fun v41 w42 =>
                                  isTup v41 fun l43 =>
                                    rd l43[(0 : Nat)]? fun v44 =>
                                      isSl v44 fun o45 n46 n47 =>
                                        isTup v41 fun l48 =>
                                          rd l48[(1 : Nat)]? fun v49 =>
                                            isK IntKind.i64 v49 fun i50 =>
                                              br (!decide (i50 = (0 : Int)))
                                                (br t2
                                                  (br (decide ((↑n46 : Int) = (0 : Int)))
                                                    (br (decide (i50 = (2 : Int))) (R (Value.bool true) w42) (R (Value.bool (decide (i50 = (3 : Int)))) w42))
                                                    (R (Value.bool false) w42))
                                                  (R (Value.bool false) w42))
                                                (callV Try.prog (14 : Nat) [Value.slice o45 n46 n47] w42 fun v51 w52 =>
                                                  isTup v51 fun l53 =>
                                                    rd l53[(0 : Nat)]? fun v54 =>
                                                      isSl v54 fun o55 n56 n57 =>
                                                        isTup v51 fun l58 =>
                                                          rd l58[(1 : Nat)]? fun v59 =>
                                                            isK IntKind.i64 v59 fun i60 =>
                                                              br t2
                                                                (br (decide (i60 = (0 : Int)))
                                                                  (runs Try.prog (convert (25 : Nat) (9 : Nat) (Value.slice o55 n56 n57)) w52 fun v61 w62 =>
                                                                    isStr v61 fun x63 =>
                                                                      runs Try.prog (convert (25 : Nat) (9 : Nat) (Value.slice o10 n11 n12)) w62 fun v64 w65 =>
                                                                        isStr v64 fun x66 =>
                                                                          br (decide (x63 = x66)) (R (Value.bool (decide ((↑n46 : Int) ≤ (16 : Int)))) w65)
                                                                            (R (Value.bool false) w65))
                                                                  (R (Value.bool false) w52))
                                                                (R (Value.bool false) w52))) :
  callV Try.prog 5 [Value.slice ap an ac, Value.slice bp bn bc] w R :=
  vc_of hm ⟨fun n => match n with | 9 => true | _ => false, fun _ => .done, fun n => match n with | 9 => [] | _ => []⟩ Try.func5 ent5 (by kernel_rfl) h

end Go.Proofs.Ytfekkdmnboccfaa
