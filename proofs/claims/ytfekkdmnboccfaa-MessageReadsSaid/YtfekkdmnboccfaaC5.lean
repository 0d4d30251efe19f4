/- The conditions of functions, written out: printed by a small program (VCDev.lean, vcgen.sh).  Conditions: none. -/
import Derived.Test.YtfekkdmnboccfaaTab
namespace Go.Proofs.Ytfekkdmnboccfaa
set_option linter.unusedSimpArgs false
set_option linter.unusedVariables false
open Go VC
theorem vc12 (w : World) (R : Value → World → Prop)
  (h : runs Try.prog
  (Instr.buildSlice (22 : Nat) (1 : Nat)
    #[((0 : Nat),
        Value.agg
          #[Value.int IntKind.i64 (1 : Int), Value.int IntKind.u16 (0 : Int), Value.int IntKind.u16 (0 : Int), Value.int IntKind.u8 (0 : Int), Value.int IntKind.i8 (0 : Int),
            Value.int IntKind.i8 (0 : Int), Value.int IntKind.i64 (0 : Int), Value.int IntKind.u16 (0 : Int), Value.int IntKind.i64 (0 : Int), Value.int IntKind.i64 (0 : Int),
            Value.int IntKind.i64 (0 : Int), Value.int IntKind.i64 (0 : Int), Value.int IntKind.i64 (0 : Int), Value.int IntKind.i64 (0 : Int), Value.int IntKind.i64 (0 : Int),
            Value.int IntKind.i64 (0 : Int), Value.int IntKind.i64 (0 : Int), Value.int IntKind.i64 (0 : Int), Value.int IntKind.i64 (0 : Int), Value.int IntKind.i64 (0 : Int),
            Value.int IntKind.u32 (0 : Int), Value.int IntKind.u32 (0 : Int), Value.slice none (0 : Nat) (0 : Nat)])])
  w fun v0 w1 =>
  isSl v0 fun o2 n3 n4 =>
    callV Try.prog (14 : Nat) [Value.slice o2 n3 n4] w1 fun v5 w6 =>
      isTup v5 fun l7 =>
        rd l7[(0 : Nat)]? fun v8 =>
          isSl v8 fun o9 n10 n11 =>
            isTup v5 fun l12 =>
              rd l12[(1 : Nat)]? fun v13 =>
                isK IntKind.i64 v13 fun i14 =>
                  callV Try.prog (18 : Nat) [Value.slice o9 n10 n11] w6 fun v15 w16 =>
                    isTup v15 fun l17 =>
                      rd l17[(0 : Nat)]? fun v18 =>
                        isSl v18 fun o19 n20 n21 =>
                          isTup v15 fun l22 =>
                            rd l22[(1 : Nat)]? fun v23 =>
                              isK IntKind.i64 v23 fun i24 =>
                                runs Try.prog (Instr.buildSlice (25 : Nat) (1 : Nat) #[((0 : Nat), Value.int IntKind.u8 (8 : Int))]) w16 fun v25 w26 =>
                                  isSl v25 fun o27 n28 n29 =>
                                    callV Try.prog (18 : Nat) [Value.slice o27 n28 n29] w26 fun v30 w31 =>
                                      isTup v30 fun l32 =>
                                        rd l32[(0 : Nat)]? fun v33 =>
                                          isSl v33 fun o34 n35 n36 =>
                                            isTup v30 fun l37 =>
                                              rd l37[(1 : Nat)]? fun v38 =>
                                                isK IntKind.i64 v38 fun i39 =>
                                                  runs Try.prog
                                                    (Instr.buildSlice (25 : Nat) (2 : Nat)
                                                      #[((0 : Nat), Value.int IntKind.u8 (8 : Int)), ((1 : Nat), Value.int IntKind.u8 (129 : Int))])
                                                    w31 fun v40 w41 =>
                                                    isSl v40 fun o42 n43 n44 =>
                                                      callV Try.prog (18 : Nat) [Value.slice o42 n43 n44] w41 fun v45 w46 =>
                                                        isTup v45 fun l47 =>
                                                          rd l47[(0 : Nat)]? fun v48 =>
                                                            isSl v48 fun o49 n50 n51 =>
                                                              isTup v45 fun l52 =>
                                                                rd l52[(1 : Nat)]? fun v53 =>
                                                                  isK IntKind.i64 v53 fun i54 =>
                                                                    runs Try.prog (convert (25 : Nat) (9 : Nat) (Value.slice o9 n10 n11)) w46 fun v55 w56 =>
                                                                      isStr v55 fun x57 =>
                                                                        br (decide (x57 = { data := #[(8 : UInt8), (128 : UInt8)] : ByteArray }))
                                                                          (br (decide (i14 = (0 : Int)))
                                                                            (br (decide ((↑n20 : Int) = (1 : Int)))
                                                                              (rd o19 fun a58 =>
                                                                                ((0 : Int) ≤ (0 : Int) ∧ (0 : Int) < (↑n20 : Int)) ∧
                                                                                  rd (World.cell? w56 a58) fun v59 =>
                                                                                    isK IntKind.i64 v59 fun i60 =>
                                                                                      br (decide (i60 = (1 : Int)))
                                                                                        (br (decide (i24 = (0 : Int)))
                                                                                          (br (decide (i39 = (2 : Int)))
                                                                                            (br (decide (i54 = (3 : Int)))
                                                                                              (callV Try.prog (16 : Nat)
                                                                                                [Value.agg
                                                                                                    #[Value.int IntKind.i64 (0 : Int), Value.int IntKind.u16 (0 : Int),
                                                                                                      Value.int IntKind.u16 (0 : Int), Value.int IntKind.u8 (0 : Int),
                                                                                                      Value.int IntKind.i8 (0 : Int), Value.int IntKind.i8 (0 : Int),
                                                                                                      Value.int IntKind.i64 (0 : Int), Value.int IntKind.u16 (0 : Int),
                                                                                                      Value.int IntKind.i64 (0 : Int), Value.int IntKind.i64 (0 : Int),
                                                                                                      Value.int IntKind.i64 (0 : Int), Value.int IntKind.i64 (0 : Int),
                                                                                                      Value.int IntKind.i64 (0 : Int), Value.int IntKind.i64 (0 : Int),
                                                                                                      Value.int IntKind.i64 (0 : Int), Value.int IntKind.i64 (0 : Int),
                                                                                                      Value.int IntKind.i64 (0 : Int), Value.int IntKind.i64 (0 : Int),
                                                                                                      Value.int IntKind.i64 (0 : Int), Value.int IntKind.i64 (0 : Int),
                                                                                                      Value.int IntKind.u32 (0 : Int), Value.int IntKind.u32 (0 : Int),
                                                                                                      Value.slice none (0 : Nat) (0 : Nat)]]
                                                                                                w56 fun v61 w62 =>
                                                                                                isB v61 fun t63 =>
                                                                                                  br (!t63)
                                                                                                    (callV Try.prog (16 : Nat)
                                                                                                      [Value.agg
                                                                                                          #[Value.int IntKind.i64 (5 : Int), Value.int IntKind.u16 (0 : Int),
                                                                                                            Value.int IntKind.u16 (0 : Int), Value.int IntKind.u8 (0 : Int),
                                                                                                            Value.int IntKind.i8 (0 : Int), Value.int IntKind.i8 (0 : Int),
                                                                                                            Value.int IntKind.i64 (0 : Int), Value.int IntKind.u16 (0 : Int),
                                                                                                            Value.int IntKind.i64 (1 : Int), Value.int IntKind.i64 (0 : Int),
                                                                                                            Value.int IntKind.i64 (0 : Int), Value.int IntKind.i64 (0 : Int),
                                                                                                            Value.int IntKind.i64 (0 : Int), Value.int IntKind.i64 (0 : Int),
                                                                                                            Value.int IntKind.i64 (0 : Int), Value.int IntKind.i64 (0 : Int),
                                                                                                            Value.int IntKind.i64 (0 : Int), Value.int IntKind.i64 (0 : Int),
                                                                                                            Value.int IntKind.i64 (0 : Int), Value.int IntKind.i64 (0 : Int),
                                                                                                            Value.int IntKind.u32 (0 : Int), Value.int IntKind.u32 (0 : Int),
                                                                                                            Value.slice none (0 : Nat) (0 : Nat)]]
                                                                                                      w62 fun v64 w65 => isB v64 fun t66 => R (Value.bool t66) w65)
                                                                                                    (R (Value.bool false) w62))
                                                                                              (R (Value.bool false) w56))
                                                                                            (R (Value.bool false) w56))
                                                                                          (R (Value.bool false) w56))
                                                                                        (R (Value.bool false) w56))
                                                                              (R (Value.bool false) w56))
                                                                            (R (Value.bool false) w56))
                                                                          (R (Value.bool false) w56)) :
  callV Try.prog 12 [] w R :=
  vc_of hm noHints Try.func12 ent12 (by kernel_rfl) h

theorem vc6 (ap : Option Addr) (an : Nat) (ac : Nat) (b : Int) (c : Int) (w : World) (R : Value → World → Prop)
  (h : callV Try.prog (12 : Nat) [] w fun v0 w1 =>
  isB v0 fun t2 =>
    callV Try.prog (13 : Nat) [Value.slice ap an ac] w1 fun v3 w4 =>
      isSl v3 fun o5 n6 n7 =>
        callV Try.prog (14 : Nat) [Value.slice o5 n6 n7] w4 fun v8 w9 =>
          isTup v8 fun l10 =>
            rd l10[(0 : Nat)]? fun v11 =>
              isSl v11 fun o12 n13 n14 =>
                isTup v8 fun l15 =>
                  rd l15[(1 : Nat)]? fun v16 =>
                    isK IntKind.i64 v16 fun i17 =>
                      br (!decide (i17 = (0 : Int))) (br t2 (R (Value.bool !decide (i17 = (0 : Int))) w9) (R (Value.bool false) w9))
                        (br (decide ((↑n13 : Int) = (0 : Int))) (br t2 (R (Value.bool !decide (i17 = (0 : Int))) w9) (R (Value.bool false) w9))
                          (rd (orO (binV BinOp.rem (Value.int IntKind.i64 (andI IntKind.i64 b (65535 : Int))) (Value.int IntKind.i64 (↑n13 : Int))) none) fun v18 =>
                            isK IntKind.i64 v18 fun i19 =>
                              runs Try.prog (Instr.sliceAt (25 : Nat) (Value.slice o12 n13 n14) none (some (Value.int IntKind.i64 i19)) none) w9 fun v20 w21 =>
                                isSl v20 fun o22 n23 n24 =>
                                  callV Try.prog (18 : Nat) [Value.slice o22 n23 n24] w21 fun v25 w26 =>
                                    isTup v25 fun l27 =>
                                      rd l27[(0 : Nat)]? fun v28 =>
                                        isSl v28 fun o29 n30 n31 =>
                                          isTup v25 fun l32 =>
                                            rd l32[(1 : Nat)]? fun v33 =>
                                              isK IntKind.i64 v33 fun i34 =>
                                                runs Try.prog (Instr.buildSlice (25 : Nat) (0 : Nat) #[]) w26 fun v35 w36 =>
                                                  isSl v35 fun o37 n38 n39 =>
                                                    runs Try.prog (Builtin.append_ #[(25 : Nat), (25 : Nat)] (25 : Nat) #[Value.slice o37 n38 n39, Value.slice o12 n13 n14]) w36
                                                      fun v40 w41 =>
                                                      isSl v40 fun o42 n43 n44 =>
                                                        runs Try.prog (Instr.buildSlice (25 : Nat) (1 : Nat) #[((0 : Nat), Value.int IntKind.u8 c)]) w41 fun v45 w46 =>
                                                          isSl v45 fun o47 n48 n49 =>
                                                            runs Try.prog (Builtin.append_ #[(25 : Nat), (25 : Nat)] (25 : Nat) #[Value.slice o42 n43 n44, Value.slice o47 n48 n49])
                                                              w46 fun v50 w51 =>
                                                              isSl v50 fun o52 n53 n54 =>
                                                                callV Try.prog (18 : Nat) [Value.slice o52 n53 n54] w51 fun v55 w56 =>
                                                                  isTup v55 fun l57 =>
                                                                    rd l57[(0 : Nat)]? fun v58 =>
                                                                      isSl v58 fun o59 n60 n61 =>
                                                                        isTup v55 fun l62 =>
                                                                          rd l62[(1 : Nat)]? fun v63 =>
                                                                            isK IntKind.i64 v63 fun i64 =>
                                                                              br t2
                                                                                (br (decide (i34 = (2 : Int))) (R (Value.bool (decide (i64 = (3 : Int)))) w56)
                                                                                  (R (Value.bool false) w56))
                                                                                (R (Value.bool false) w56)))) :
  callV Try.prog 6 [Value.slice ap an ac, Value.int IntKind.i64 b, Value.int IntKind.u8 c] w R :=
  vc_of hm noHints Try.func6 ent6 (by kernel_rfl) h

theorem vc8 (ap : Option Addr) (an : Nat) (ac : Nat) (bp : Option Addr) (bn : Nat) (bc : Nat) (w : World) (R : Value → World → Prop)
  (h : callV Try.prog (12 : Nat) [] w fun v0 w1 =>
  isB v0 fun t2 =>
    callV Try.prog (13 : Nat) [Value.slice ap an ac] w1 fun v3 w4 =>
      isSl v3 fun o5 n6 n7 =>
        callV Try.prog (13 : Nat) [Value.slice bp bn bc] w4 fun v8 w9 =>
          isSl v8 fun o10 n11 n12 =>
            callV Try.prog (14 : Nat) [Value.slice o5 n6 n7] w9 fun v13 w14 =>
              isTup v13 fun l15 =>
                rd l15[(0 : Nat)]? fun v16 =>
                  isSl v16 fun o17 n18 n19 =>
                    isTup v13 fun l20 =>
                      rd l20[(1 : Nat)]? fun v21 =>
                        isK IntKind.i64 v21 fun i22 =>
                          callV Try.prog (14 : Nat) [Value.slice o10 n11 n12] w14 fun v23 w24 =>
                            isTup v23 fun l25 =>
                              rd l25[(0 : Nat)]? fun v26 =>
                                isSl v26 fun o27 n28 n29 =>
                                  isTup v23 fun l30 =>
                                    rd l30[(1 : Nat)]? fun v31 =>
                                      isK IntKind.i64 v31 fun i32 =>
                                        br (!decide (i22 = (0 : Int))) (R (Value.bool t2) w24)
                                          (br (!decide (i32 = (0 : Int))) (R (Value.bool t2) w24)
                                            (heldC (World.drew w24) fun u33 =>
                                              (∀ (w34 : World), u33 w34 → Value.bool t2 = Value.bool t2 ∧ w34 = w34) ∧
                                                (∀ (w36 : World), u33 w36 → Value.bool t2 = Value.bool t2 ∧ w36 = w36) ∧
                                                  br t2
                                                    ((∀ (w38 : World), u33 w38 → Value.slice o17 n18 n19 = Value.slice o17 n18 n19 ∧ w38 = w38) ∧
                                                      runs Try.prog (convert (25 : Nat) (9 : Nat) (Value.slice o17 n18 n19)) (World.drew w24) fun v40 w41 =>
                                                        (∀ (w42 : World),
                                                            u33 w42 →
                                                              runs Try.prog (convert (25 : Nat) (9 : Nat) (Value.slice o17 n18 n19)) w42 fun v44 w45 => v44 = v40 ∧ w45 = w42) ∧
                                                          isStr v40 fun x46 =>
                                                            (∀ (w47 : World), u33 w47 → Value.slice o27 n28 n29 = Value.slice o27 n28 n29 ∧ w47 = w47) ∧
                                                              runs Try.prog (convert (25 : Nat) (9 : Nat) (Value.slice o27 n28 n29)) (World.drew w24) fun v49 w50 =>
                                                                (∀ (w51 : World),
                                                                    u33 w51 →
                                                                      runs Try.prog (convert (25 : Nat) (9 : Nat) (Value.slice o27 n28 n29)) w51 fun v53 w54 =>
                                                                        v53 = v49 ∧ w54 = w51) ∧
                                                                  isStr v49 fun x55 =>
                                                                    (∀ (w56 : World), u33 w56 → Value.bool (decide (x46 = x55)) = Value.bool (decide (x46 = x55)) ∧ w56 = w56) ∧
                                                                      (∀ (w58 : World), u33 w58 → Value.slice o5 n6 n7 = Value.slice o5 n6 n7 ∧ w58 = w58) ∧
                                                                        (∀ (w60 : World), u33 w60 → Value.slice o10 n11 n12 = Value.slice o10 n11 n12 ∧ w60 = w60) ∧
                                                                          callV Try.prog (20 : Nat) [Value.slice o5 n6 n7, Value.slice o10 n11 n12] (World.drew w24) fun v62 w63 =>
                                                                            isB v62 fun t64 =>
                                                                              u33 w63 ∧
                                                                                (∀ (w65 : World),
                                                                                    u33 w65 →
                                                                                      Value.bool (decide (decide (x46 = x55) = t64)) =
                                                                                          Value.bool (decide (decide (x46 = x55) = t64)) ∧
                                                                                        w65 = w65) ∧
                                                                                  (∀ (w67 : World),
                                                                                      u33 w67 →
                                                                                        Value.bool (decide (decide (x46 = x55) = t64)) =
                                                                                            Value.bool (decide (decide (x46 = x55) = t64)) ∧
                                                                                          w67 = w67) ∧
                                                                                    (∀ (w69 : World),
                                                                                        u33 w69 →
                                                                                          Value.bool (decide (decide (x46 = x55) = t64)) =
                                                                                              Value.bool (decide (decide (x46 = x55) = t64)) ∧
                                                                                            w69 = w69) ∧
                                                                                      R (Value.bool (decide (decide (x46 = x55) = t64))) w63)
                                                    (u33 (World.drew w24) ∧
                                                      (∀ (w71 : World), u33 w71 → Value.bool false = Value.bool false ∧ w71 = w71) ∧
                                                        (∀ (w73 : World), u33 w73 → Value.bool false = Value.bool false ∧ w73 = w73) ∧ R (Value.bool false) (World.drew w24))))) :
  callV Try.prog 8 [Value.slice ap an ac, Value.slice bp bn bc] w R :=
  vc_of hm ⟨fun _ => false, fun n => match n with | 8 => .take 0 (.take 1 (.take 2 (.take 3 (.take 4 (.take 5 (.take 6 (.take 7 (.take 8 (.one 9 (.take 10 (.take 11 (.take 12 (.done))))))))))))) | _ => .done, fun _ => []⟩ Try.func8 ent8 (by kernel_rfl) h

theorem vc10 (a0 : Int) (a1 : Int) (a20 : Int) (a21 : Int) (a22 : Int) (a23 : Int) (a24 : Int) (a3 : Int) (a4 : Int) (a5 : Int) (a60 : Int) (a61 : Int) (a62 : Int) (a7 : Int) (a80 : Int) (a81 : Int) (a82 : Int) (a90 : Int) (a91 : Int) (a92 : Int) (a10 : Int) (a11 : Int) (a12p : Option Addr) (a12n : Nat) (a12c : Nat) (w : World) (R : Value → World → Prop)
  (h : allocC w
  (Obj.cells
    #[Value.int IntKind.i64 a0, Value.int IntKind.u16 a1, Value.int IntKind.u16 a20, Value.int IntKind.u8 a21, Value.int IntKind.i8 a22, Value.int IntKind.i8 a23,
      Value.int IntKind.i64 a24, Value.int IntKind.u16 a3, Value.int IntKind.i64 a4, Value.int IntKind.i64 a5, Value.int IntKind.i64 a60, Value.int IntKind.i64 a61,
      Value.int IntKind.i64 a62, Value.int IntKind.i64 a7, Value.int IntKind.i64 a80, Value.int IntKind.i64 a81, Value.int IntKind.i64 a82, Value.int IntKind.i64 a90,
      Value.int IntKind.i64 a91, Value.int IntKind.i64 a92, Value.int IntKind.u32 a10, Value.int IntKind.u32 a11, Value.slice a12p a12n a12c]
    (40 : Nat))
  fun n0 w1 =>
  callV Try.prog (12 : Nat) [] w1 fun v2 w3 =>
    isB v2 fun t4 =>
      rd (World.cell? w3 { block := n0, off := (22 : Nat) : Addr }) fun v5 =>
        isSl v5 fun o6 n7 n8 =>
          rd (World.cell? w3 { block := n0, off := (22 : Nat) : Addr }) fun v9 =>
            isSl v9 fun o10 n11 n12 =>
              runs Try.prog (Instr.sliceAt (25 : Nat) (Value.slice o6 n7 n8) none (some (Value.int IntKind.i64 (min (↑n11 : Int) (900 : Int)))) none) w3 fun v13 w14 =>
                isSl v13 fun o15 n16 n17 =>
                  stC w14 { block := n0, off := (22 : Nat) : Addr } [Value.slice o15 n16 n17] fun w18 =>
                    rd (cellsAt w18 { block := n0, off := (0 : Nat) : Addr } (23 : Nat)) fun l19 =>
                      callV Try.prog (16 : Nat) [Value.agg (List.toArray l19)] w18 fun v20 w21 =>
                        isB v20 fun t22 =>
                          br (!t22) (R (Value.bool t4) w21)
                            (rd (World.cell? w21 { block := n0, off := (22 : Nat) : Addr }) fun v23 =>
                              isSl v23 fun o24 n25 n26 =>
                                runs Try.prog
                                  (Instr.buildSlice (52 : Nat) (10 : Nat)
                                    #[((0 : Nat), Value.int IntKind.i64 (0 : Int)), ((1 : Nat), Value.int IntKind.i64 (0 : Int)), ((2 : Nat), Value.int IntKind.i64 (37 : Int)),
                                      ((3 : Nat), Value.int IntKind.i64 (71 : Int)), ((4 : Nat), Value.int IntKind.i64 (0 : Int)), ((5 : Nat), Value.int IntKind.i64 (31 : Int)),
                                      ((6 : Nat), Value.int IntKind.i64 (208 : Int)), ((7 : Nat), Value.int IntKind.i64 (47 : Int)), ((8 : Nat), Value.int IntKind.i64 (20 : Int)),
                                      ((9 : Nat), Value.int IntKind.i64 (IntKind.wrap IntKind.i64 ((74 : Int) + IntKind.wrap IntKind.i64 ((8 : Int) * (↑n25 : Int)))))])
                                  w21 fun v27 w28 =>
                                  isSl v27 fun o29 n30 n31 =>
                                    rd (World.cell? w28 { block := n0, off := (0 : Nat) : Addr }) fun v32 =>
                                      isK IntKind.i64 v32 fun i33 =>
                                        rd o29 fun a34 =>
                                          ((0 : Int) ≤ i33 ∧ i33 < (↑n30 : Int)) ∧
                                            rd (World.cell? w28 (Addr.add a34 (Int.toNat i33 * (1 : Nat)))) fun v35 =>
                                              isK IntKind.i64 v35 fun i36 =>
                                                rd (cellsAt w28 { block := n0, off := (0 : Nat) : Addr } (23 : Nat)) fun l37 =>
                                                  runs Try.prog (Instr.buildSlice (22 : Nat) (1 : Nat) #[((0 : Nat), Value.agg (List.toArray l37))]) w28 fun v38 w39 =>
                                                    isSl v38 fun o40 n41 n42 =>
                                                      callV Try.prog (14 : Nat) [Value.slice o40 n41 n42] w39 fun v43 w44 =>
                                                        isTup v43 fun l45 =>
                                                          rd l45[(0 : Nat)]? fun v46 =>
                                                            isSl v46 fun o47 n48 n49 =>
                                                              isTup v43 fun l50 =>
                                                                rd l50[(1 : Nat)]? fun v51 =>
                                                                  isK IntKind.i64 v51 fun i52 =>
                                                                    br t4
                                                                      (br (decide (i52 = (0 : Int)))
                                                                        (br
                                                                          (decide
                                                                            ((↑n48 : Int) =
                                                                              IntKind.wrap IntKind.i64
                                                                                (Int.tdiv (IntKind.wrap IntKind.i64 (IntKind.wrap IntKind.i64 ((9 : Int) + i36) + (7 : Int)))
                                                                                  (8 : Int))))
                                                                          (rd o47 fun a53 =>
                                                                            ((0 : Int) ≤ (0 : Int) ∧ (0 : Int) < (↑n48 : Int)) ∧
                                                                              rd (World.cell? w44 a53) fun v54 =>
                                                                                isK IntKind.u8 v54 fun i55 =>
                                                                                  R (Value.bool (decide (IntKind.wrap IntKind.i64 (Int.fdiv i55 (8 : Int)) = (1 : Int)))) w44)
                                                                          (R (Value.bool false) w44))
                                                                        (R (Value.bool false) w44))
                                                                      (R (Value.bool false) w44))) :
  callV Try.prog 10 [Value.agg #[Value.int IntKind.i64 a0, Value.int IntKind.u16 a1, Value.int IntKind.u16 a20, Value.int IntKind.u8 a21, Value.int IntKind.i8 a22, Value.int IntKind.i8 a23, Value.int IntKind.i64 a24, Value.int IntKind.u16 a3, Value.int IntKind.i64 a4, Value.int IntKind.i64 a5, Value.int IntKind.i64 a60, Value.int IntKind.i64 a61, Value.int IntKind.i64 a62, Value.int IntKind.i64 a7, Value.int IntKind.i64 a80, Value.int IntKind.i64 a81, Value.int IntKind.i64 a82, Value.int IntKind.i64 a90, Value.int IntKind.i64 a91, Value.int IntKind.i64 a92, Value.int IntKind.u32 a10, Value.int IntKind.u32 a11, Value.slice a12p a12n a12c]] w R :=
  vc_of hm noHints Try.func10 ent10 (by kernel_rfl) h

end Go.Proofs.Ytfekkdmnboccfaa
