/- The conditions of functions, written out: printed by a small program (VCDev.lean, vcgen.sh).  Conditions: none. -/
import Derived.Test.YtfekkdmnboccfaaTab
namespace Go.Proofs.Ytfekkdmnboccfaa
set_option linter.unusedSimpArgs false
set_option linter.unusedVariables false
open Go VC
theorem vc85 (a : Addr) (b : Addr) (c : Int) (w : World) (R : Value → World → Prop)
  (h : allocC w (Obj.cells #[Value.int IntKind.u64 (0 : Int)] (60 : Nat)) fun n0 w1 =>
  allocC w1 (Obj.cells #[Value.int IntKind.u64 (0 : Int)] (60 : Nat)) fun n2 w3 =>
    callV Try.prog (87 : Nat) [Value.pointer (some a), Value.pointer (some { block := n0, off := (0 : Nat) : Addr }), Value.int IntKind.i64 c] w3 fun v4 w5 =>
      loopC (alist []) w5 fun u6 u7 =>
        ∀ (u8 : Nat → Value) (w9 : World),
          u6 (alist []) w9 →
            rd (World.cell? w9 { block := n0, off := (0 : Nat) : Addr }) fun v11 =>
              isK IntKind.u64 v11 fun i12 =>
                br (decide ((0 : Int) < i12))
                  (rd (World.cell? w9 (Addr.add a (1 : Nat))) fun v13 =>
                    isK IntKind.i64 v13 fun i14 =>
                      br (decide (i14 = (0 : Int)))
                        (callV Try.prog (87 : Nat) [Value.pointer (some a), Value.pointer (some { block := n2, off := (0 : Nat) : Addr }), Value.int IntKind.i64 (8 : Int)] w9
                          fun v15 w16 =>
                          heldC (World.drew w16) fun u17 =>
                            (∀ (w18 : World), u17 w18 → Value.pointer (some b) = Value.pointer (some b) ∧ w18 = w18) ∧
                              (∀ (w20 : World), u17 w20 → Value.pointer (some b) = Value.pointer (some b) ∧ w20 = w20) ∧
                                (∀ (w22 : World), u17 w22 → Value.pointer (some b) = Value.pointer (some b) ∧ w22 = w22) ∧
                                  rd (World.cell? (World.drew w16) { block := n2, off := (0 : Nat) : Addr }) fun v24 =>
                                    (∀ (w25 : World), u17 w25 → rd (World.cell? w25 { block := n2, off := (0 : Nat) : Addr }) fun v27 => v27 = v24 ∧ w25 = w25) ∧
                                      isK IntKind.u64 v24 fun i28 =>
                                        (∀ (w29 : World),
                                            u17 w29 → Value.int IntKind.u8 (IntKind.wrap IntKind.u8 i28) = Value.int IntKind.u8 (IntKind.wrap IntKind.u8 i28) ∧ w29 = w29) ∧
                                          (rd (World.cell? (World.drew w16) b) fun v31 =>
                                              isSl v31 fun o32 n33 n34 =>
                                                u17 (World.drew w16) ∧
                                                  runs Try.prog (Instr.buildSlice (25 : Nat) (1 : Nat) #[((0 : Nat), Value.int IntKind.u8 (IntKind.wrap IntKind.u8 i28))])
                                                    (World.drew w16) fun v35 w36 =>
                                                    isSl v35 fun o37 n38 n39 =>
                                                      u17 w36 ∧
                                                        runs Try.prog (Builtin.append_ #[(25 : Nat), (25 : Nat)] (25 : Nat) #[Value.slice o32 n33 n34, Value.slice o37 n38 n39]) w36
                                                          fun v40 w41 =>
                                                          isSl v40 fun o42 n43 n44 =>
                                                            u17 w41 ∧
                                                              (∀ (w45 : World), u17 w45 → Value.pointer (some b) = Value.pointer (some b) ∧ w45 = w45) ∧
                                                                stC w41 b [Value.slice o42 n43 n44] fun w47 =>
                                                                  u17 w47 ∧
                                                                    rd (World.cell? w47 { block := n0, off := (0 : Nat) : Addr }) fun v48 =>
                                                                      isK IntKind.u64 v48 fun i49 =>
                                                                        stC w47 { block := n0, off := (0 : Nat) : Addr }
                                                                          [Value.int IntKind.u64 (IntKind.wrap IntKind.u64 (i49 - (1 : Int)))] fun w50 =>
                                                                          again u6 u7 (alist []) w50 (alist []) w9) ∧
                                            runs Try.prog (Instr.buildSlice (25 : Nat) (1 : Nat) #[((0 : Nat), Value.int IntKind.u8 (IntKind.wrap IntKind.u8 i28))])
                                              (World.drew w16) fun v51 w52 =>
                                              isSl v51 fun o53 n54 n55 =>
                                                u17 w52 ∧
                                                  rd (World.cell? w52 b) fun v56 =>
                                                    isSl v56 fun o57 n58 n59 =>
                                                      u17 w52 ∧
                                                        runs Try.prog (Builtin.append_ #[(25 : Nat), (25 : Nat)] (25 : Nat) #[Value.slice o57 n58 n59, Value.slice o53 n54 n55]) w52
                                                          fun v60 w61 =>
                                                          isSl v60 fun o62 n63 n64 =>
                                                            u17 w61 ∧
                                                              (∀ (w65 : World), u17 w65 → Value.pointer (some b) = Value.pointer (some b) ∧ w65 = w65) ∧
                                                                stC w61 b [Value.slice o62 n63 n64] fun w67 =>
                                                                  u17 w67 ∧
                                                                    rd (World.cell? w67 { block := n0, off := (0 : Nat) : Addr }) fun v68 =>
                                                                      isK IntKind.u64 v68 fun i69 =>
                                                                        stC w67 { block := n0, off := (0 : Nat) : Addr }
                                                                          [Value.int IntKind.u64 (IntKind.wrap IntKind.u64 (i69 - (1 : Int)))] fun w70 =>
                                                                          again u6 u7 (alist []) w70 (alist []) w9)
                        (R (Value.tuple #[]) w9))
                  (R (Value.tuple #[]) w9)) :
  callV Try.prog 85 [Value.pointer (some a), Value.pointer (some b), Value.int IntKind.i64 c] w R :=
  vc_of hm ⟨fun _ => false, fun n => match n with | 5 => .take 0 (.take 1 (.take 2 (.take 4 (.take 5 (.two 3 (.one 6 (.one 7 (.take 8 (.one 9 (.done))))) 6 (.one 3 (.one 7 (.take 8 (.one 9 (.done)))))))))) | _ => .done, fun n => match n with | 2 => [] | _ => []⟩ Try.func85 ent85 (by kernel_rfl) h

end Go.Proofs.Ytfekkdmnboccfaa
