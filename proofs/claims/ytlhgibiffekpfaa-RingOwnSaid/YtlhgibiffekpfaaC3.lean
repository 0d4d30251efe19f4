/- The conditions of functions, written out: printed by a small program (VCDev.lean, vcgen.sh).  Conditions: none. -/
import Derived.Test.YtlhgibiffekpfaaTab
namespace Go.Proofs.Ytlhgibiffekpfaa
set_option linter.unusedSimpArgs false
set_option linter.unusedVariables false
open Go VC
theorem vc32 (a : Addr) (w : World) (R : Value → World → Prop)
  (h : allocC w (Obj.cells #[Value.pointer (some a)] (48 : Nat)) fun n0 w1 => R (Value.func (Fn.func (42 : Nat)) #[] #[Value.pointer (some { block := n0, off := (0 : Nat) : Addr })]) w1) :
  callV Try.prog 32 [Value.pointer (some a)] w R :=
  vc_of hm noHints Try.func32 ent32 (by kernel_rfl) h

theorem vc42 (a : Value) (c0 : Addr) (w : World) (R : Value → World → Prop)
  (h : rd (World.cell? w c0) fun v0 =>
  isP v0 fun o1 =>
    rd (nilChk (Value.pointer o1)) fun v2 =>
      isPtr v2 fun a3 =>
        rd (World.cell? w (Addr.add a3 (2 : Nat))) fun v4 =>
          isSl v4 fun o5 n6 n7 =>
            loopC (alist [((11 : Nat), Value.int IntKind.i64 (0 : Int))]) w fun u8 u9 =>
              ∀ (u10 : Nat → Value) (w11 : World),
                u8 (alist [((11 : Nat), u10 (11 : Nat))]) w11 →
                  rd (orO (binV BinOp.lss (u10 (11 : Nat)) (Value.int IntKind.i64 (↑n6 : Int))) none) fun v13 =>
                    isB v13 fun t14 =>
                      br t14
                        (isK IntKind.i64 (u10 (11 : Nat)) fun i15 =>
                          rd (World.cell? w11 c0) fun v16 =>
                            isP v16 fun o17 =>
                              callV Try.prog (31 : Nat) [Value.pointer o17, Value.int IntKind.i64 i15] w11 fun v18 w19 =>
                                isTup v18 fun l20 =>
                                  rd l20[(0 : Nat)]? fun v21 =>
                                    isK IntKind.i64 v21 fun i22 =>
                                      isTup v18 fun l23 =>
                                        rd l23[(1 : Nat)]? fun v24 =>
                                          isB v24 fun t25 =>
                                            isFn a fun f26 l27 l28 =>
                                              callF Try.prog f26 (l27 ++ [Value.int IntKind.i64 i22]) l28 w19 fun v29 w30 =>
                                                isB v29 fun t31 =>
                                                  br (!t31) (R (Value.tuple #[]) w30)
                                                    (rd (orO (binV BinOp.add (u10 (11 : Nat)) (Value.int IntKind.i64 (1 : Int))) none) fun v32 =>
                                                      isK IntKind.i64 v32 fun i33 =>
                                                        again u8 u9 (alist [((11 : Nat), Value.int IntKind.i64 i33)]) w30 (alist [((11 : Nat), u10 (11 : Nat))]) w11))
                        (R (Value.tuple #[]) w11)) :
  callV Try.prog 42 [a, Value.pointer (some c0)] w R :=
  vc_of hm ⟨fun _ => false, fun _ => .done, fun n => match n with | 1 => [11] | _ => []⟩ Try.func42 ent42 (by kernel_rfl) h

end Go.Proofs.Ytlhgibiffekpfaa
