/- The conditions of functions, written out: printed by a small program (VCDev.lean, vcgen.sh).  Conditions: none. -/
import Derived.Test.YtmhbgaledhfpkaaTab
namespace Go.Proofs.Ytmhbgaledhfpkaa
set_option linter.unusedSimpArgs false
set_option linter.unusedVariables false
open Go VC
theorem vc7 (w : World) (R : Value → World → Prop)
  (h : callV Try.prog (8 : Nat) [Value.int IntKind.i64 (1 : Int)] w fun v0 w1 =>
  rd (orO (binV BinOp.eql v0 (Value.pointer none)) (eqV Try.prog BinOp.eql (24 : Nat) v0 (Value.pointer none))) fun v2 =>
    isB v2 fun t3 =>
      br t3 (R (Value.bool false) w1)
        (callV Try.prog (9 : Nat) [v0, Value.string { data := #[(97 : UInt8)] : ByteArray }] w1 fun v4 w5 =>
          callV Try.prog (9 : Nat) [v0, Value.string { data := #[(98 : UInt8)] : ByteArray }] w5 fun v6 w7 =>
            callV Try.prog (12 : Nat) [v0] w7 fun v8 w9 =>
              isTup v8 fun l10 =>
                rd l10[(0 : Nat)]? fun v11 =>
                  isTup v8 fun l12 =>
                    rd l12[(1 : Nat)]? fun v13 =>
                      callV Try.prog (12 : Nat) [v0] w9 fun v14 w15 =>
                        isTup v14 fun l16 =>
                          rd l16[(0 : Nat)]? fun v17 =>
                            isTup v14 fun l18 =>
                              rd l18[(1 : Nat)]? fun v19 =>
                                isB v4 fun t20 =>
                                  br t20
                                    (rd (unV UnOp.not v6) fun v21 =>
                                      isB v21 fun t22 =>
                                        br t22
                                          (rd
                                            (orO (binV BinOp.eql v11 (Value.string { data := #[(97 : UInt8)] : ByteArray }))
                                              (eqV Try.prog BinOp.eql (9 : Nat) v11 (Value.string { data := #[(97 : UInt8)] : ByteArray })))
                                            fun v23 =>
                                            isB v23 fun t24 =>
                                              br t24
                                                (isB v13 fun t25 =>
                                                  br t25
                                                    (rd (unV UnOp.not v19) fun v26 =>
                                                      isB v26 fun t27 =>
                                                        br t27
                                                          (callV Try.prog (11 : Nat) [v0] w15 fun v28 w29 =>
                                                            rd
                                                              (orO (binV BinOp.eql v28 (Value.int IntKind.i64 (1 : Int)))
                                                                (eqV Try.prog BinOp.eql (3 : Nat) v28 (Value.int IntKind.i64 (1 : Int))))
                                                              fun v30 => R v30 w29)
                                                          (R (Value.bool false) w15))
                                                    (R (Value.bool false) w15))
                                                (R (Value.bool false) w15))
                                          (R (Value.bool false) w15))
                                    (R (Value.bool false) w15))) :
  callV Try.prog 7 [] w R :=
  vc_of hm noHints Try.func7 ent7 (by kernel_rfl) h

theorem vc8 (a : Int) (w : World) (R : Value → World → Prop)
  (h : runs Try.prog (Instr.makeChan (49 : Nat) (Value.int IntKind.i64 (min (max a (1 : Int)) (4096 : Int)))) w fun v0 w1 =>
  rd (gd (Value.oneCell' v0 && true && true)) fun _x =>
    allocC w1 (Obj.cells #[v0, Value.int IntKind.i64 (0 : Int)] (51 : Nat)) fun n2 w3 => R (Value.pointer (some { block := n2, off := (0 : Nat) : Addr })) w3) :
  callV Try.prog 8 [Value.int IntKind.i64 a] w R :=
  vc_of hm noHints Try.func8 ent8 (by kernel_rfl) h

theorem vc10 (a : Addr) (w : World) (R : Value → World → Prop)
  (h : rd (World.cell? w a) fun v0 => runs Try.prog (Builtin.len_ #[(49 : Nat)] (3 : Nat) #[v0]) w fun v1 w2 => R v1 w2) :
  callV Try.prog 10 [Value.pointer (some a)] w R :=
  vc_of hm noHints Try.func10 ent10 (by kernel_rfl) h

theorem vc11 (a : Addr) (w : World) (R : Value → World → Prop)
  (h : rd (World.cell? w (Addr.add a (1 : Nat))) fun v0 => R v0 w) :
  callV Try.prog 11 [Value.pointer (some a)] w R :=
  vc_of hm noHints Try.func11 ent11 (by kernel_rfl) h

theorem vc13 (a : Int) (w : World) (R : Value → World → Prop)
  (h : runs Try.prog (Instr.makeChan (52 : Nat) (Value.int IntKind.i64 (min (max a (1 : Int)) (4096 : Int)))) w fun v0 w1 =>
  rd (gd (Value.oneCell' v0 && true && true)) fun _x =>
    allocC w1 (Obj.cells #[v0, Value.int IntKind.i64 (0 : Int)] (54 : Nat)) fun n2 w3 => R (Value.pointer (some { block := n2, off := (0 : Nat) : Addr })) w3) :
  callV Try.prog 13 [Value.int IntKind.i64 a] w R :=
  vc_of hm noHints Try.func13 ent13 (by kernel_rfl) h

theorem vc14 (a : Int) (w : World) (R : Value → World → Prop)
  (h : allocC w (Obj.cells #[Value.int IntKind.i64 (min (max a (1 : Int)) (4096 : Int)), Value.slice none (0 : Nat) (0 : Nat), Value.int IntKind.i64 (0 : Int)] (43 : Nat)) fun n0 w1 =>
  R (Value.pointer (some { block := n0, off := (0 : Nat) : Addr })) w1) :
  callV Try.prog 14 [Value.int IntKind.i64 a] w R :=
  vc_of hm noHints Try.func14 ent14 (by kernel_rfl) h

theorem vc16 (a : Addr) (b : Int) (w : World) (R : Value → World → Prop)
  (h : rd (World.cell? (World.drew w) (Addr.add a (1 : Nat))) fun v0 =>
  isSl v0 fun o1 n2 n3 =>
    rd (World.cell? (World.drew w) a) fun v4 =>
      rd (orO (binV BinOp.geq (Value.int IntKind.i64 (↑n2 : Int)) v4) none) fun v5 =>
        isB v5 fun t6 =>
          br t6
            (rd (World.cell? (World.drew w) (Addr.add a (2 : Nat))) fun v7 =>
              rd (orO (binV BinOp.add v7 (Value.int IntKind.i64 (1 : Int))) none) fun v8 =>
                rd (gd (Value.oneCell' v8 && true)) fun _x => stC (World.drew w) (Addr.add a (2 : Nat)) [v8] fun w9 => R (Value.bool false) w9)
            (rd (World.cell? (World.drew w) (Addr.add a (1 : Nat))) fun v10 =>
              runs Try.prog (Instr.buildSlice (41 : Nat) (1 : Nat) #[((0 : Nat), Value.int IntKind.i64 b)]) (World.drew w) fun v11 w12 =>
                runs Try.prog (Builtin.append_ #[(41 : Nat), (41 : Nat)] (41 : Nat) #[v10, v11]) w12 fun v13 w14 =>
                  rd (gd (Value.oneCell' v13 && true)) fun _x => stC w14 (Addr.add a (1 : Nat)) [v13] fun w15 => R (Value.bool true) w15)) :
  callV Try.prog 16 [Value.pointer (some a), Value.int IntKind.i64 b] w R :=
  vc_of hm ⟨fun _ => false, fun n => match n with | 1 => .take 0 (.take 1 (.take 2 (.take 3 (.take 4 (.take 5 (.take 6 (.take 7 (.take 8 (.take 9 (.done)))))))))) | _ => .done, fun _ => []⟩ Try.func16 ent16 (by kernel_rfl) h

theorem vc18 (a : Addr) (w : World) (R : Value → World → Prop)
  (h : rd (World.cell? w (Addr.add a (1 : Nat))) fun v0 =>
  isSl v0 fun o1 n2 n3 =>
    br (decide ((↑n2 : Int) = (0 : Int))) (R (Value.tuple #[Value.int IntKind.i64 (0 : Int), Value.bool false]) w)
      (rd (World.cell? w (Addr.add a (1 : Nat))) fun v4 =>
        isSl v4 fun o5 n6 n7 =>
          rd o5 fun a8 =>
            ((0 : Int) ≤ (0 : Int) ∧ (0 : Int) < (↑n6 : Int)) ∧
              rd (World.cell? w a8) fun v9 =>
                runs Try.prog (Instr.buildSlice (41 : Nat) (0 : Nat) #[]) w fun v10 w11 =>
                  rd (World.cell? w11 (Addr.add a (1 : Nat))) fun v12 =>
                    runs Try.prog (Instr.sliceAt (41 : Nat) v12 (some (Value.int IntKind.i64 (1 : Int))) none none) w11 fun v13 w14 =>
                      runs Try.prog (Builtin.append_ #[(41 : Nat), (41 : Nat)] (41 : Nat) #[v10, v13]) w14 fun v15 w16 =>
                        rd (gd (Value.oneCell' v15 && true)) fun _x => stC w16 (Addr.add a (1 : Nat)) [v15] fun w17 => R (Value.tuple #[v9, Value.bool true]) w17)) :
  callV Try.prog 18 [Value.pointer (some a)] w R :=
  vc_of hm noHints Try.func18 ent18 (by kernel_rfl) h

theorem vc19 (a : Addr) (w : World) (R : Value → World → Prop)
  (h : rd (World.cell? w (Addr.add a (1 : Nat))) fun v0 => R v0 w) :
  callV Try.prog 19 [Value.pointer (some a)] w R :=
  vc_of hm noHints Try.func19 ent19 (by kernel_rfl) h

theorem vc20 (ap : Option Addr) (an : Nat) (ac : Nat) (bp : Option Addr) (bn : Nat) (bc : Nat) (w : World) (R : Value → World → Prop)
  (h : br (!decide ((↑an : Int) = (↑bn : Int))) (R (Value.bool false) w)
  (loopC (alist [((5 : Nat), Value.int IntKind.i64 (0 : Int))]) w fun u0 u1 =>
    ∀ (u2 : Nat → Value) (w3 : World),
      u0 (alist [((5 : Nat), u2 (5 : Nat))]) w3 →
        rd (orO (binV BinOp.lss (u2 (5 : Nat)) (Value.int IntKind.i64 (↑an : Int))) none) fun v5 =>
          isB v5 fun t6 =>
            br t6
              (isInt (u2 (5 : Nat)) fun k7 i8 =>
                rd ap fun a9 =>
                  ((0 : Int) ≤ i8 ∧ i8 < (↑an : Int)) ∧
                    rd (World.cell? (World.drew w3) (Addr.add a9 (Int.toNat i8 * (1 : Nat)))) fun v10 =>
                      isInt (u2 (5 : Nat)) fun k11 i12 =>
                        rd bp fun a13 =>
                          ((0 : Int) ≤ i12 ∧ i12 < (↑bn : Int)) ∧
                            rd (World.cell? (World.drew w3) (Addr.add a13 (Int.toNat i12 * (1 : Nat)))) fun v14 =>
                              rd (orO (binV BinOp.neq v10 v14) (eqV Try.prog BinOp.neq (3 : Nat) v10 v14)) fun v15 =>
                                isB v15 fun t16 =>
                                  br t16 (R (Value.bool false) (World.drew w3))
                                    (rd (orO (binV BinOp.add (u2 (5 : Nat)) (Value.int IntKind.i64 (1 : Int))) none) fun v17 =>
                                      again u0 u1 (alist [((5 : Nat), v17)]) (World.drew w3) (alist [((5 : Nat), u2 (5 : Nat))]) w3))
              (R (Value.bool true) w3))) :
  callV Try.prog 20 [Value.slice ap an ac, Value.slice bp bn bc] w R :=
  vc_of hm ⟨fun _ => false, fun n => match n with | 6 => .take 0 (.take 1 (.take 2 (.take 3 (.take 4 (.take 5 (.take 6 (.take 7 (.take 8 (.done))))))))) | _ => .done, fun n => match n with | 4 => [5] | _ => []⟩ Try.func20 ent20 (by kernel_rfl) h

theorem vc21 (a : Addr) (w : World) (R : Value → World → Prop)
  (h : loopC (alist [((3 : Nat), Value.slice none (0 : Nat) (0 : Nat))]) w fun u0 u1 =>
  ∀ (u2 : Nat → Value) (w3 : World),
    u0 (alist [((3 : Nat), u2 (3 : Nat))]) w3 →
      callV Try.prog (17 : Nat) [Value.pointer (some a)] w3 fun v5 w6 =>
        isTup v5 fun l7 =>
          rd l7[(0 : Nat)]? fun v8 =>
            isTup v5 fun l9 =>
              rd l9[(1 : Nat)]? fun v10 =>
                rd (unV UnOp.not v10) fun v11 =>
                  isB v11 fun t12 =>
                    br t12 (R (u2 (3 : Nat)) w6)
                      (runs Try.prog (Instr.buildSlice (41 : Nat) (1 : Nat) #[((0 : Nat), v8)]) w6 fun v13 w14 =>
                        runs Try.prog (Builtin.append_ #[(41 : Nat), (41 : Nat)] (41 : Nat) #[u2 (3 : Nat), v13]) w14 fun v15 w16 =>
                          again u0 u1 (alist [((3 : Nat), v15)]) w16 (alist [((3 : Nat), u2 (3 : Nat))]) w3)) :
  callV Try.prog 21 [Value.pointer (some a)] w R :=
  vc_of hm ⟨fun _ => false, fun _ => .done, fun n => match n with | 2 => [3] | _ => []⟩ Try.func21 ent21 (by kernel_rfl) h

theorem vc22 (a : Addr) (w : World) (R : Value → World → Prop)
  (h : rd (World.cell? w (Addr.add a (1 : Nat))) fun v0 => stC w (Addr.add a (1 : Nat)) [Value.slice none (0 : Nat) (0 : Nat)] fun w1 => R v0 w1) :
  callV Try.prog 22 [Value.pointer (some a)] w R :=
  vc_of hm noHints Try.func22 ent22 (by kernel_rfl) h

theorem vc23 (a : Addr) (w : World) (R : Value → World → Prop)
  (h : rd (World.cell? w a) fun v0 => runs Try.prog (Builtin.len_ #[(52 : Nat)] (3 : Nat) #[v0]) w fun v1 w2 => R v1 w2) :
  callV Try.prog 23 [Value.pointer (some a)] w R :=
  vc_of hm noHints Try.func23 ent23 (by kernel_rfl) h

theorem vc24 (a : Addr) (w : World) (R : Value → World → Prop)
  (h : loopC (alist [((3 : Nat), Value.slice none (0 : Nat) (0 : Nat))]) w fun u0 u1 =>
  ∀ (u2 : Nat → Value) (w3 : World),
    u0 (alist [((3 : Nat), u2 (3 : Nat))]) w3 →
      callV Try.prog (12 : Nat) [Value.pointer (some a)] w3 fun v5 w6 =>
        isTup v5 fun l7 =>
          rd l7[(0 : Nat)]? fun v8 =>
            isTup v5 fun l9 =>
              rd l9[(1 : Nat)]? fun v10 =>
                rd (unV UnOp.not v10) fun v11 =>
                  isB v11 fun t12 =>
                    br t12 (R (u2 (3 : Nat)) w6)
                      (runs Try.prog (Instr.buildSlice (22 : Nat) (1 : Nat) #[((0 : Nat), v8)]) w6 fun v13 w14 =>
                        runs Try.prog (Builtin.append_ #[(22 : Nat), (22 : Nat)] (22 : Nat) #[u2 (3 : Nat), v13]) w14 fun v15 w16 =>
                          again u0 u1 (alist [((3 : Nat), v15)]) w16 (alist [((3 : Nat), u2 (3 : Nat))]) w3)) :
  callV Try.prog 24 [Value.pointer (some a)] w R :=
  vc_of hm ⟨fun _ => false, fun _ => .done, fun n => match n with | 2 => [3] | _ => []⟩ Try.func24 ent24 (by kernel_rfl) h

end Go.Proofs.Ytmhbgaledhfpkaa
