/- The conditions of functions, written out: printed by a small program (VCDev.lean, vcgen.sh).  Conditions: none. -/
import Derived.Test.YtmhbgaledhfpkaaTab
namespace Go.Proofs.Ytmhbgaledhfpkaa
set_option linter.unusedSimpArgs false
set_option linter.unusedVariables false
open Go VC
theorem vc3 (a : Int) (bp : Option Addr) (bn : Nat) (bc : Nat) (w : World) (R : Value → World → Prop)
  (h : callV Try.prog (7 : Nat) [] w fun v0 w1 =>
  callV Try.prog (8 : Nat) [Value.int IntKind.i64 a] w1 fun v2 w3 =>
    rd (orO (binV BinOp.eql v2 (Value.pointer none)) (eqV Try.prog BinOp.eql (24 : Nat) v2 (Value.pointer none))) fun v4 =>
      isB v4 fun t5 =>
        br t5 (R (Value.bool false) w3)
          (cutC
            (fun u6 =>
              loopC (alist [((7 : Nat), Value.slice none (0 : Nat) (0 : Nat)), ((8 : Nat), Value.int IntKind.i64 (0 : Int))]) w3 fun u7 u8 =>
                ∀ (u9 : Nat → Value) (w10 : World),
                  u7 (alist [((7 : Nat), u9 (7 : Nat)), ((8 : Nat), u9 (8 : Nat))]) w10 →
                    rd (orO (binV BinOp.lss (u9 (8 : Nat)) (Value.int IntKind.i64 (↑bn : Int))) none) fun v12 =>
                      isB v12 fun t13 =>
                        br t13
                          (rd (orO (binV BinOp.lss (u9 (8 : Nat)) (Value.int IntKind.i64 (200 : Int))) none) fun v14 =>
                            isB v14 fun t15 =>
                              br t15
                                (isInt (u9 (8 : Nat)) fun k16 i17 =>
                                  rd bp fun a18 =>
                                    ((0 : Int) ≤ i17 ∧ i17 < (↑bn : Int)) ∧
                                      rd (World.cell? w10 (Addr.add a18 (Int.toNat i17 * (1 : Nat)))) fun v19 =>
                                        callV Try.prog (9 : Nat) [v2, v19] w10 fun v20 w21 =>
                                          isB v20 fun t22 =>
                                            br t22
                                              (isInt (u9 (8 : Nat)) fun k23 i24 =>
                                                rd bp fun a25 =>
                                                  ((0 : Int) ≤ i24 ∧ i24 < (↑bn : Int)) ∧
                                                    rd (World.cell? w21 (Addr.add a25 (Int.toNat i24 * (1 : Nat)))) fun v26 =>
                                                      runs Try.prog (Instr.buildSlice (22 : Nat) (1 : Nat) #[((0 : Nat), v26)]) w21 fun v27 w28 =>
                                                        runs Try.prog (Builtin.append_ #[(22 : Nat), (22 : Nat)] (22 : Nat) #[u9 (7 : Nat), v27]) w28 fun v29 w30 =>
                                                          rd (orO (binV BinOp.add (u9 (8 : Nat)) (Value.int IntKind.i64 (1 : Int))) none) fun v31 =>
                                                            again u7 u8 (alist [((7 : Nat), v29), ((8 : Nat), v31)]) w30
                                                              (alist [((7 : Nat), u9 (7 : Nat)), ((8 : Nat), u9 (8 : Nat))]) w10)
                                              (rd (orO (binV BinOp.add (u9 (8 : Nat)) (Value.int IntKind.i64 (1 : Int))) none) fun v32 =>
                                                again u7 u8 (alist [((7 : Nat), u9 (7 : Nat)), ((8 : Nat), v32)]) w21 (alist [((7 : Nat), u9 (7 : Nat)), ((8 : Nat), u9 (8 : Nat))])
                                                  w10))
                                (u6 (alist [((7 : Nat), u9 (7 : Nat))]) w10))
                          (u6 (alist [((7 : Nat), u9 (7 : Nat))]) w10))
            fun u33 =>
            ∀ (u34 : Nat → Value) (w35 : World),
              u33 (alist [((7 : Nat), u34 (7 : Nat))]) w35 →
                isSl (u34 (7 : Nat)) fun o37 n38 n39 =>
                  br (!decide ((↑n38 : Int) = min (min (↑bn : Int) (200 : Int)) (min (max a (1 : Int)) (4096 : Int)))) (R (Value.bool false) w35)
                    (callV Try.prog (10 : Nat) [v2] w35 fun v40 w41 =>
                      isSl (u34 (7 : Nat)) fun o42 n43 n44 =>
                        rd (orO (binV BinOp.neq v40 (Value.int IntKind.i64 (↑n43 : Int))) (eqV Try.prog BinOp.neq (3 : Nat) v40 (Value.int IntKind.i64 (↑n43 : Int)))) fun v45 =>
                          isB v45 fun t46 =>
                            br t46 (R (Value.bool false) w41)
                              (callV Try.prog (11 : Nat) [v2] w41 fun v47 w48 =>
                                isSl (u34 (7 : Nat)) fun o49 n50 n51 =>
                                  rd
                                    (orO (binV BinOp.neq v47 (Value.int IntKind.i64 (IntKind.wrap IntKind.i64 (min (↑bn : Int) (200 : Int) - (↑n50 : Int)))))
                                      (eqV Try.prog BinOp.neq (3 : Nat) v47 (Value.int IntKind.i64 (IntKind.wrap IntKind.i64 (min (↑bn : Int) (200 : Int) - (↑n50 : Int))))))
                                    fun v52 =>
                                    isB v52 fun t53 =>
                                      br t53 (R (Value.bool false) w48)
                                        (loopC (alist [((11 : Nat), Value.int IntKind.i64 (0 : Int))]) w48 fun u54 u55 =>
                                          ∀ (u56 : Nat → Value) (w57 : World),
                                            u54 (alist [((11 : Nat), u56 (11 : Nat))]) w57 →
                                              isSl (u34 (7 : Nat)) fun o59 n60 n61 =>
                                                rd (orO (binV BinOp.lss (u56 (11 : Nat)) (Value.int IntKind.i64 (↑n60 : Int))) none) fun v62 =>
                                                  isB v62 fun t63 =>
                                                    br t63
                                                      (callV Try.prog (12 : Nat) [v2] w57 fun v64 w65 =>
                                                        isTup v64 fun l66 =>
                                                          rd l66[(0 : Nat)]? fun v67 =>
                                                            isTup v64 fun l68 =>
                                                              rd l68[(1 : Nat)]? fun v69 =>
                                                                rd (unV UnOp.not v69) fun v70 =>
                                                                  isB v70 fun t71 =>
                                                                    br t71 (R (Value.bool false) w65)
                                                                      (isInt (u56 (11 : Nat)) fun k72 i73 =>
                                                                        isSl (u34 (7 : Nat)) fun o74 n75 n76 =>
                                                                          rd o74 fun a77 =>
                                                                            ((0 : Int) ≤ i73 ∧ i73 < (↑n75 : Int)) ∧
                                                                              rd (World.cell? w65 (Addr.add a77 (Int.toNat i73 * (1 : Nat)))) fun v78 =>
                                                                                rd (orO (binV BinOp.neq v67 v78) (eqV Try.prog BinOp.neq (9 : Nat) v67 v78)) fun v79 =>
                                                                                  isB v79 fun t80 =>
                                                                                    br t80 (R (Value.bool false) w65)
                                                                                      (isInt (u56 (11 : Nat)) fun k81 i82 =>
                                                                                        rd bp fun a83 =>
                                                                                          ((0 : Int) ≤ i82 ∧ i82 < (↑bn : Int)) ∧
                                                                                            rd (World.cell? w65 (Addr.add a83 (Int.toNat i82 * (1 : Nat)))) fun v84 =>
                                                                                              rd (orO (binV BinOp.neq v67 v84) (eqV Try.prog BinOp.neq (9 : Nat) v67 v84))
                                                                                                fun v85 =>
                                                                                                isB v85 fun t86 =>
                                                                                                  br t86 (R (Value.bool false) w65)
                                                                                                    (rd
                                                                                                      (orO (binV BinOp.add (u56 (11 : Nat)) (Value.int IntKind.i64 (1 : Int))) none)
                                                                                                      fun v87 =>
                                                                                                      again u54 u55 (alist [((11 : Nat), v87)]) w65
                                                                                                        (alist [((11 : Nat), u56 (11 : Nat))]) w57))))
                                                      (callV Try.prog (12 : Nat) [v2] w57 fun v88 w89 =>
                                                        isTup v88 fun l90 =>
                                                          rd l90[(0 : Nat)]? fun v91 =>
                                                            isTup v88 fun l92 =>
                                                              rd l92[(1 : Nat)]? fun v93 =>
                                                                callV Try.prog (9 : Nat)
                                                                  [v2,
                                                                    Value.string { data := #[(97 : UInt8), (103 : UInt8), (97 : UInt8), (105 : UInt8), (110 : UInt8)] : ByteArray }]
                                                                  w89 fun v94 w95 =>
                                                                  isB v0 fun t96 =>
                                                                    br t96
                                                                      (rd (unV UnOp.not v93) fun v97 =>
                                                                        isB v97 fun t98 =>
                                                                          br t98
                                                                            (rd
                                                                              (orO (binV BinOp.eql v91 (Value.string { data := #[] : ByteArray }))
                                                                                (eqV Try.prog BinOp.eql (9 : Nat) v91 (Value.string { data := #[] : ByteArray })))
                                                                              fun v99 =>
                                                                              isB v99 fun t100 =>
                                                                                br t100
                                                                                  (isB v94 fun t101 =>
                                                                                    br t101
                                                                                      (callV Try.prog (10 : Nat) [v2] w95 fun v102 w103 =>
                                                                                        rd
                                                                                          (orO (binV BinOp.eql v102 (Value.int IntKind.i64 (1 : Int)))
                                                                                            (eqV Try.prog BinOp.eql (3 : Nat) v102 (Value.int IntKind.i64 (1 : Int))))
                                                                                          fun v104 => R v104 w103)
                                                                                      (R (Value.bool false) w95))
                                                                                  (R (Value.bool false) w95))
                                                                            (R (Value.bool false) w95))
                                                                      (R (Value.bool false) w95))))))) :
  callV Try.prog 3 [Value.int IntKind.i64 a, Value.slice bp bn bc] w R :=
  vc_of hm ⟨fun n => match n with | 11 => true | _ => false, fun _ => .done, fun n => match n with | 11 => [7] | 7 => [7, 8] | 16 => [11] | _ => []⟩ Try.func3 ent3 (by kernel_rfl) h

theorem vc4 (a : Int) (b : Int) (cp : Option Addr) (cn : Nat) (cc : Nat) (w : World) (R : Value → World → Prop)
  (h : callV Try.prog (7 : Nat) [] w fun v0 w1 =>
  callV Try.prog (13 : Nat) [Value.int IntKind.i64 a] w1 fun v2 w3 =>
    callV Try.prog (13 : Nat) [Value.int IntKind.i64 b] w3 fun v4 w5 =>
      callV Try.prog (14 : Nat) [Value.int IntKind.i64 a] w5 fun v6 w7 =>
        rd (orO (binV BinOp.eql v2 (Value.pointer none)) (eqV Try.prog BinOp.eql (32 : Nat) v2 (Value.pointer none))) fun v8 =>
          isB v8 fun t9 =>
            br t9 (R (Value.bool false) w7)
              (rd (orO (binV BinOp.eql v4 (Value.pointer none)) (eqV Try.prog BinOp.eql (32 : Nat) v4 (Value.pointer none))) fun v10 =>
                isB v10 fun t11 =>
                  br t11 (R (Value.bool false) w7)
                    (loopC (alist [((11 : Nat), Value.int IntKind.i64 (0 : Int))]) w7 fun u12 u13 =>
                      ∀ (u14 : Nat → Value) (w15 : World),
                        u12 (alist [((11 : Nat), u14 (11 : Nat))]) w15 →
                          rd (orO (binV BinOp.lss (u14 (11 : Nat)) (Value.int IntKind.i64 (↑cn : Int))) none) fun v17 =>
                            isB v17 fun t18 =>
                              br t18
                                (rd (orO (binV BinOp.lss (u14 (11 : Nat)) (Value.int IntKind.i64 (100 : Int))) none) fun v19 =>
                                  isB v19 fun t20 =>
                                    br t20
                                      (callV Try.prog (15 : Nat) [v4, u14 (11 : Nat)] w15 fun v21 w22 =>
                                        isInt (u14 (11 : Nat)) fun k23 i24 =>
                                          rd cp fun a25 =>
                                            ((0 : Int) ≤ i24 ∧ i24 < (↑cn : Int)) ∧
                                              rd (World.cell? w22 (Addr.add a25 (Int.toNat i24 * (2 : Nat)))) fun v26 =>
                                                rd (orO (binV BinOp.lss v26 (Value.int IntKind.i64 (3 : Int))) none) fun v27 =>
                                                  isB v27 fun t28 =>
                                                    br t28
                                                      (heldC (World.drew w22) fun u29 =>
                                                        (∀ (w30 : World), u29 w30 → v2 = v2 ∧ w30 = w30) ∧
                                                          (∀ (w32 : World), u29 w32 → Value.slice cp cn cc = Value.slice cp cn cc ∧ w32 = w32) ∧
                                                            (∀ (w34 : World), u29 w34 → u14 (11 : Nat) = u14 (11 : Nat) ∧ w34 = w34) ∧
                                                              isInt (u14 (11 : Nat)) fun k36 i37 =>
                                                                rd cp fun a38 =>
                                                                  ((0 : Int) ≤ i37 ∧ i37 < (↑cn : Int)) ∧
                                                                    (∀ (w39 : World),
                                                                        u29 w39 →
                                                                          isInt (u14 (11 : Nat)) fun k41 i42 =>
                                                                            rd cp fun a43 =>
                                                                              ((0 : Int) ≤ i42 ∧ i42 < (↑cn : Int)) ∧
                                                                                Value.pointer (some (Addr.add a43 (Int.toNat i42 * (2 : Nat)))) =
                                                                                    Value.pointer (some (Addr.add a38 (Int.toNat i37 * (2 : Nat)))) ∧
                                                                                  w39 = w39) ∧
                                                                      (∀ (w44 : World),
                                                                          u29 w44 →
                                                                            Value.pointer (some (Addr.add (Addr.add a38 (Int.toNat i37 * (2 : Nat))) (1 : Nat))) =
                                                                                Value.pointer (some (Addr.add (Addr.add a38 (Int.toNat i37 * (2 : Nat))) (1 : Nat))) ∧
                                                                              w44 = w44) ∧
                                                                        rd (World.cell? (World.drew w22) (Addr.add (Addr.add a38 (Int.toNat i37 * (2 : Nat))) (1 : Nat))) fun v46 =>
                                                                          (∀ (w47 : World),
                                                                              u29 w47 →
                                                                                rd (World.cell? w47 (Addr.add (Addr.add a38 (Int.toNat i37 * (2 : Nat))) (1 : Nat))) fun v49 =>
                                                                                  v49 = v46 ∧ w47 = w47) ∧
                                                                            (∀ (w50 : World), u29 w50 → v6 = v6 ∧ w50 = w50) ∧
                                                                              (∀ (w52 : World), u29 w52 → Value.slice cp cn cc = Value.slice cp cn cc ∧ w52 = w52) ∧
                                                                                (∀ (w54 : World), u29 w54 → u14 (11 : Nat) = u14 (11 : Nat) ∧ w54 = w54) ∧
                                                                                  isInt (u14 (11 : Nat)) fun k56 i57 =>
                                                                                    rd cp fun a58 =>
                                                                                      ((0 : Int) ≤ i57 ∧ i57 < (↑cn : Int)) ∧
                                                                                        (∀ (w59 : World),
                                                                                            u29 w59 →
                                                                                              isInt (u14 (11 : Nat)) fun k61 i62 =>
                                                                                                rd cp fun a63 =>
                                                                                                  ((0 : Int) ≤ i62 ∧ i62 < (↑cn : Int)) ∧
                                                                                                    Value.pointer (some (Addr.add a63 (Int.toNat i62 * (2 : Nat)))) =
                                                                                                        Value.pointer (some (Addr.add a58 (Int.toNat i57 * (2 : Nat)))) ∧
                                                                                                      w59 = w59) ∧
                                                                                          (∀ (w64 : World),
                                                                                              u29 w64 →
                                                                                                Value.pointer
                                                                                                      (some (Addr.add (Addr.add a58 (Int.toNat i57 * (2 : Nat))) (1 : Nat))) =
                                                                                                    Value.pointer
                                                                                                      (some (Addr.add (Addr.add a58 (Int.toNat i57 * (2 : Nat))) (1 : Nat))) ∧
                                                                                                  w64 = w64) ∧
                                                                                            rd
                                                                                              (World.cell? (World.drew w22)
                                                                                                (Addr.add (Addr.add a58 (Int.toNat i57 * (2 : Nat))) (1 : Nat)))
                                                                                              fun v66 =>
                                                                                              (∀ (w67 : World),
                                                                                                  u29 w67 →
                                                                                                    rd
                                                                                                      (World.cell? w67
                                                                                                        (Addr.add (Addr.add a58 (Int.toNat i57 * (2 : Nat))) (1 : Nat)))
                                                                                                      fun v69 => v69 = v66 ∧ w67 = w67) ∧
                                                                                                callV Try.prog (15 : Nat) [v2, v46] (World.drew w22) fun v70 w71 =>
                                                                                                  u29 w71 ∧
                                                                                                    callV Try.prog (16 : Nat) [v6, v66] w71 fun v72 w73 =>
                                                                                                      u29 w73 ∧
                                                                                                        rd (orO (binV BinOp.neq v70 v72) (eqV Try.prog BinOp.neq (4 : Nat) v70 v72))
                                                                                                          fun v74 =>
                                                                                                          (∀ (w75 : World),
                                                                                                              u29 w75 →
                                                                                                                rd
                                                                                                                  (orO (binV BinOp.neq v70 v72)
                                                                                                                    (eqV Try.prog BinOp.neq (4 : Nat) v70 v72))
                                                                                                                  fun v77 => v77 = v74 ∧ w75 = w75) ∧
                                                                                                            isB v74 fun t78 =>
                                                                                                              br t78 (R (Value.bool false) w73)
                                                                                                                (rd
                                                                                                                  (orO
                                                                                                                    (binV BinOp.add (u14 (11 : Nat))
                                                                                                                      (Value.int IntKind.i64 (1 : Int)))
                                                                                                                    none)
                                                                                                                  fun v79 =>
                                                                                                                  again u12 u13 (alist [((11 : Nat), v79)]) w73
                                                                                                                    (alist [((11 : Nat), u14 (11 : Nat))]) w15))
                                                      (callV Try.prog (17 : Nat) [v2] w22 fun v80 w81 =>
                                                        isTup v80 fun l82 =>
                                                          rd l82[(0 : Nat)]? fun v83 =>
                                                            isTup v80 fun l84 =>
                                                              rd l84[(1 : Nat)]? fun v85 =>
                                                                callV Try.prog (18 : Nat) [v6] w81 fun v86 w87 =>
                                                                  isTup v86 fun l88 =>
                                                                    rd l88[(0 : Nat)]? fun v89 =>
                                                                      isTup v86 fun l90 =>
                                                                        rd l90[(1 : Nat)]? fun v91 =>
                                                                          rd (orO (binV BinOp.neq v83 v89) (eqV Try.prog BinOp.neq (3 : Nat) v83 v89)) fun v92 =>
                                                                            isB v92 fun t93 =>
                                                                              br t93 (R (Value.bool false) w87)
                                                                                (rd (orO (binV BinOp.neq v85 v91) (eqV Try.prog BinOp.neq (4 : Nat) v85 v91)) fun v94 =>
                                                                                  isB v94 fun t95 =>
                                                                                    br t95 (R (Value.bool false) w87)
                                                                                      (rd (orO (binV BinOp.add (u14 (11 : Nat)) (Value.int IntKind.i64 (1 : Int))) none) fun v96 =>
                                                                                        again u12 u13 (alist [((11 : Nat), v96)]) w87 (alist [((11 : Nat), u14 (11 : Nat))]) w15))))
                                      (heldC (World.drew w15) fun u97 =>
                                        (∀ (w98 : World), u97 w98 → v0 = v0 ∧ w98 = w98) ∧
                                          (∀ (w100 : World), u97 w100 → v0 = v0 ∧ w100 = w100) ∧
                                            isB v0 fun t102 =>
                                              br t102
                                                ((∀ (w103 : World), u97 w103 → v2 = v2 ∧ w103 = w103) ∧
                                                  (∀ (w105 : World), u97 w105 → v6 = v6 ∧ w105 = w105) ∧
                                                    rd (nilChk v6) fun v107 =>
                                                      (∀ (w108 : World), u97 w108 → rd (nilChk v6) fun v110 => v110 = v107 ∧ w108 = w108) ∧
                                                        isPtr v107 fun a111 =>
                                                          (∀ (w112 : World),
                                                              u97 w112 →
                                                                isPtr v107 fun a114 =>
                                                                  Value.pointer (some (Addr.add a114 (2 : Nat))) = Value.pointer (some (Addr.add a111 (2 : Nat))) ∧ w112 = w112) ∧
                                                            rd (World.cell? (World.drew w15) (Addr.add a111 (2 : Nat))) fun v115 =>
                                                              (∀ (w116 : World), u97 w116 → rd (World.cell? w116 (Addr.add a111 (2 : Nat))) fun v118 => v118 = v115 ∧ w116 = w116) ∧
                                                                callV Try.prog (19 : Nat) [v2] (World.drew w15) fun v119 w120 =>
                                                                  u97 w120 ∧
                                                                    rd (orO (binV BinOp.eql v119 v115) (eqV Try.prog BinOp.eql (3 : Nat) v119 v115)) fun v121 =>
                                                                      (∀ (w122 : World),
                                                                          u97 w122 →
                                                                            rd (orO (binV BinOp.eql v119 v115) (eqV Try.prog BinOp.eql (3 : Nat) v119 v115)) fun v124 =>
                                                                              v124 = v121 ∧ w122 = w122) ∧
                                                                        (∀ (w125 : World), u97 w125 → v121 = v121 ∧ w125 = w125) ∧
                                                                          (∀ (w127 : World), u97 w127 → v121 = v121 ∧ w127 = w127) ∧
                                                                            isB v121 fun t129 =>
                                                                              br t129
                                                                                ((∀ (w130 : World), u97 w130 → v2 = v2 ∧ w130 = w130) ∧
                                                                                  (∀ (w132 : World), u97 w132 → v6 = v6 ∧ w132 = w132) ∧
                                                                                    callV Try.prog (21 : Nat) [v2] w120 fun v134 w135 =>
                                                                                      u97 w135 ∧
                                                                                        callV Try.prog (22 : Nat) [v6] w135 fun v136 w137 =>
                                                                                          u97 w137 ∧
                                                                                            callV Try.prog (20 : Nat) [v134, v136] w137 fun v138 w139 =>
                                                                                              u97 w139 ∧
                                                                                                (∀ (w140 : World), u97 w140 → v138 = v138 ∧ w140 = w140) ∧
                                                                                                  (∀ (w142 : World), u97 w142 → v138 = v138 ∧ w142 = w142) ∧ R v138 w139)
                                                                                (u97 w120 ∧
                                                                                  u97 w120 ∧
                                                                                    u97 w120 ∧
                                                                                      (∀ (w144 : World), u97 w144 → Value.bool false = Value.bool false ∧ w144 = w144) ∧
                                                                                        (∀ (w146 : World), u97 w146 → Value.bool false = Value.bool false ∧ w146 = w146) ∧
                                                                                          R (Value.bool false) w120))
                                                (u97 (World.drew w15) ∧
                                                  (∀ (w148 : World), u97 w148 → Value.bool false = Value.bool false ∧ w148 = w148) ∧
                                                    (∀ (w150 : World), u97 w150 → Value.bool false = Value.bool false ∧ w150 = w150) ∧
                                                      u97 (World.drew w15) ∧
                                                        u97 (World.drew w15) ∧
                                                          u97 (World.drew w15) ∧
                                                            (∀ (w152 : World), u97 w152 → Value.bool false = Value.bool false ∧ w152 = w152) ∧
                                                              (∀ (w154 : World), u97 w154 → Value.bool false = Value.bool false ∧ w154 = w154) ∧
                                                                R (Value.bool false) (World.drew w15))))
                                (heldC (World.drew w15) fun u156 =>
                                  (∀ (w157 : World), u156 w157 → v0 = v0 ∧ w157 = w157) ∧
                                    (∀ (w159 : World), u156 w159 → v0 = v0 ∧ w159 = w159) ∧
                                      isB v0 fun t161 =>
                                        br t161
                                          ((∀ (w162 : World), u156 w162 → v2 = v2 ∧ w162 = w162) ∧
                                            (∀ (w164 : World), u156 w164 → v6 = v6 ∧ w164 = w164) ∧
                                              rd (nilChk v6) fun v166 =>
                                                (∀ (w167 : World), u156 w167 → rd (nilChk v6) fun v169 => v169 = v166 ∧ w167 = w167) ∧
                                                  isPtr v166 fun a170 =>
                                                    (∀ (w171 : World),
                                                        u156 w171 →
                                                          isPtr v166 fun a173 =>
                                                            Value.pointer (some (Addr.add a173 (2 : Nat))) = Value.pointer (some (Addr.add a170 (2 : Nat))) ∧ w171 = w171) ∧
                                                      rd (World.cell? (World.drew w15) (Addr.add a170 (2 : Nat))) fun v174 =>
                                                        (∀ (w175 : World), u156 w175 → rd (World.cell? w175 (Addr.add a170 (2 : Nat))) fun v177 => v177 = v174 ∧ w175 = w175) ∧
                                                          callV Try.prog (19 : Nat) [v2] (World.drew w15) fun v178 w179 =>
                                                            u156 w179 ∧
                                                              rd (orO (binV BinOp.eql v178 v174) (eqV Try.prog BinOp.eql (3 : Nat) v178 v174)) fun v180 =>
                                                                (∀ (w181 : World),
                                                                    u156 w181 →
                                                                      rd (orO (binV BinOp.eql v178 v174) (eqV Try.prog BinOp.eql (3 : Nat) v178 v174)) fun v183 =>
                                                                        v183 = v180 ∧ w181 = w181) ∧
                                                                  (∀ (w184 : World), u156 w184 → v180 = v180 ∧ w184 = w184) ∧
                                                                    (∀ (w186 : World), u156 w186 → v180 = v180 ∧ w186 = w186) ∧
                                                                      isB v180 fun t188 =>
                                                                        br t188
                                                                          ((∀ (w189 : World), u156 w189 → v2 = v2 ∧ w189 = w189) ∧
                                                                            (∀ (w191 : World), u156 w191 → v6 = v6 ∧ w191 = w191) ∧
                                                                              callV Try.prog (21 : Nat) [v2] w179 fun v193 w194 =>
                                                                                u156 w194 ∧
                                                                                  callV Try.prog (22 : Nat) [v6] w194 fun v195 w196 =>
                                                                                    u156 w196 ∧
                                                                                      callV Try.prog (20 : Nat) [v193, v195] w196 fun v197 w198 =>
                                                                                        u156 w198 ∧
                                                                                          (∀ (w199 : World), u156 w199 → v197 = v197 ∧ w199 = w199) ∧
                                                                                            (∀ (w201 : World), u156 w201 → v197 = v197 ∧ w201 = w201) ∧ R v197 w198)
                                                                          (u156 w179 ∧
                                                                            u156 w179 ∧
                                                                              u156 w179 ∧
                                                                                (∀ (w203 : World), u156 w203 → Value.bool false = Value.bool false ∧ w203 = w203) ∧
                                                                                  (∀ (w205 : World), u156 w205 → Value.bool false = Value.bool false ∧ w205 = w205) ∧
                                                                                    R (Value.bool false) w179))
                                          (u156 (World.drew w15) ∧
                                            (∀ (w207 : World), u156 w207 → Value.bool false = Value.bool false ∧ w207 = w207) ∧
                                              (∀ (w209 : World), u156 w209 → Value.bool false = Value.bool false ∧ w209 = w209) ∧
                                                u156 (World.drew w15) ∧
                                                  u156 (World.drew w15) ∧
                                                    u156 (World.drew w15) ∧
                                                      (∀ (w211 : World), u156 w211 → Value.bool false = Value.bool false ∧ w211 = w211) ∧
                                                        (∀ (w213 : World), u156 w213 → Value.bool false = Value.bool false ∧ w213 = w213) ∧
                                                          R (Value.bool false) (World.drew w15)))))) :
  callV Try.prog 4 [Value.int IntKind.i64 a, Value.int IntKind.i64 b, Value.slice cp cn cc] w R :=
  vc_of hm ⟨fun _ => false, fun n => match n with | 12 => .take 0 (.take 1 (.take 2 (.take 3 (.take 4 (.take 5 (.take 7 (.take 8 (.take 9 (.take 10 (.take 11 (.take 12 (.one 6 (.one 13 (.take 14 (.done))))))))))))))) | 18 => .take 0 (.take 1 (.take 2 (.take 4 (.take 5 (.take 6 (.take 7 (.one 3 (.take 8 (.take 9 (.take 10 (.take 11 (.take 13 (.one 12 (.one 14 (.one 15 (.take 16 (.take 17 (.done)))))))))))))))))) | _ => .done, fun n => match n with | 8 => [11] | _ => []⟩ Try.func4 ent4 (by kernel_rfl) h

theorem vc6 (a : Int) (bp : Option Addr) (bn : Nat) (bc : Nat) (w : World) (R : Value → World → Prop)
  (h : callV Try.prog (7 : Nat) [] w fun v0 w1 =>
  callV Try.prog (8 : Nat) [Value.int IntKind.i64 a] w1 fun v2 w3 =>
    rd (orO (binV BinOp.eql v2 (Value.pointer none)) (eqV Try.prog BinOp.eql (24 : Nat) v2 (Value.pointer none))) fun v4 =>
      isB v4 fun t5 =>
        br t5 (R (Value.bool false) w3)
          (runs Try.prog (Instr.sliceAt (22 : Nat) (Value.slice bp bn bc) none (some (Value.int IntKind.i64 (min (↑bn : Int) (100 : Int)))) none) w3 fun v6 w7 =>
            loopC (alist [((7 : Nat), Value.int IntKind.i64 (0 : Int))]) w7 fun u8 u9 =>
              ∀ (u10 : Nat → Value) (w11 : World),
                u8 (alist [((7 : Nat), u10 (7 : Nat))]) w11 →
                  isSl v6 fun o13 n14 n15 =>
                    rd (orO (binV BinOp.lss (u10 (7 : Nat)) (Value.int IntKind.i64 (↑n14 : Int))) none) fun v16 =>
                      isB v16 fun t17 =>
                        br t17
                          (isInt (u10 (7 : Nat)) fun k18 i19 =>
                            isSl v6 fun o20 n21 n22 =>
                              rd o20 fun a23 =>
                                ((0 : Int) ≤ i19 ∧ i19 < (↑n21 : Int)) ∧
                                  rd (World.cell? w11 (Addr.add a23 (Int.toNat i19 * (1 : Nat)))) fun v24 =>
                                    callV Try.prog (9 : Nat) [v2, v24] w11 fun v25 w26 =>
                                      rd (orO (binV BinOp.add (u10 (7 : Nat)) (Value.int IntKind.i64 (1 : Int))) none) fun v27 =>
                                        again u8 u9 (alist [((7 : Nat), v27)]) w26 (alist [((7 : Nat), u10 (7 : Nat))]) w11)
                          (callV Try.prog (24 : Nat) [v2] w11 fun v28 w29 =>
                            callV Try.prog (11 : Nat) [v2] w29 fun v30 w31 =>
                              loopC (alist [((10 : Nat), Value.int IntKind.i64 (0 : Int))]) w31 fun u32 u33 =>
                                ∀ (u34 : Nat → Value) (w35 : World),
                                  u32 (alist [((10 : Nat), u34 (10 : Nat))]) w35 →
                                    isSl v6 fun o37 n38 n39 =>
                                      rd (orO (binV BinOp.lss (u34 (10 : Nat)) (Value.int IntKind.i64 (↑n38 : Int))) none) fun v40 =>
                                        isB v40 fun t41 =>
                                          br t41
                                            (isInt (u34 (10 : Nat)) fun k42 i43 =>
                                              isSl v6 fun o44 n45 n46 =>
                                                rd o44 fun a47 =>
                                                  ((0 : Int) ≤ i43 ∧ i43 < (↑n45 : Int)) ∧
                                                    rd (World.cell? w35 (Addr.add a47 (Int.toNat i43 * (1 : Nat)))) fun v48 =>
                                                      callV Try.prog (9 : Nat) [v2, v48] w35 fun v49 w50 =>
                                                        rd (orO (binV BinOp.add (u34 (10 : Nat)) (Value.int IntKind.i64 (1 : Int))) none) fun v51 =>
                                                          again u32 u33 (alist [((10 : Nat), v51)]) w50 (alist [((10 : Nat), u34 (10 : Nat))]) w35)
                                            (callV Try.prog (24 : Nat) [v2] w35 fun v52 w53 =>
                                              isSl v28 fun o54 n55 n56 =>
                                                isSl v52 fun o57 n58 n59 =>
                                                  br (!decide ((↑n55 : Int) = (↑n58 : Int))) (R (Value.bool false) w53)
                                                    (callV Try.prog (11 : Nat) [v2] w53 fun v60 w61 =>
                                                      rd (orO (binV BinOp.mul (Value.int IntKind.i64 (2 : Int)) v30) none) fun v62 =>
                                                        rd (orO (binV BinOp.neq v60 v62) (eqV Try.prog BinOp.neq (3 : Nat) v60 v62)) fun v63 =>
                                                          isB v63 fun t64 =>
                                                            br t64 (R (Value.bool false) w61)
                                                              (callV Try.prog (10 : Nat) [v2] w61 fun v65 w66 =>
                                                                rd
                                                                  (orO (binV BinOp.neq v65 (Value.int IntKind.i64 (0 : Int)))
                                                                    (eqV Try.prog BinOp.neq (3 : Nat) v65 (Value.int IntKind.i64 (0 : Int))))
                                                                  fun v67 =>
                                                                  isB v67 fun t68 =>
                                                                    br t68 (R (Value.bool false) w66)
                                                                      (loopC (alist [((12 : Nat), Value.int IntKind.i64 (0 : Int))]) w66 fun u69 u70 =>
                                                                        ∀ (u71 : Nat → Value) (w72 : World),
                                                                          u69 (alist [((12 : Nat), u71 (12 : Nat))]) w72 →
                                                                            isSl v28 fun o74 n75 n76 =>
                                                                              rd (orO (binV BinOp.lss (u71 (12 : Nat)) (Value.int IntKind.i64 (↑n75 : Int))) none) fun v77 =>
                                                                                isB v77 fun t78 =>
                                                                                  br t78
                                                                                    (isInt (u71 (12 : Nat)) fun k79 i80 =>
                                                                                      isSl v28 fun o81 n82 n83 =>
                                                                                        rd o81 fun a84 =>
                                                                                          ((0 : Int) ≤ i80 ∧ i80 < (↑n82 : Int)) ∧
                                                                                            rd (World.cell? (World.drew w72) (Addr.add a84 (Int.toNat i80 * (1 : Nat)))) fun v85 =>
                                                                                              isInt (u71 (12 : Nat)) fun k86 i87 =>
                                                                                                isSl v52 fun o88 n89 n90 =>
                                                                                                  rd o88 fun a91 =>
                                                                                                    ((0 : Int) ≤ i87 ∧ i87 < (↑n89 : Int)) ∧
                                                                                                      rd (World.cell? (World.drew w72) (Addr.add a91 (Int.toNat i87 * (1 : Nat))))
                                                                                                        fun v92 =>
                                                                                                        rd (orO (binV BinOp.neq v85 v92) (eqV Try.prog BinOp.neq (9 : Nat) v85 v92))
                                                                                                          fun v93 =>
                                                                                                          isB v93 fun t94 =>
                                                                                                            br t94 (R (Value.bool false) (World.drew w72))
                                                                                                              (isInt (u71 (12 : Nat)) fun k95 i96 =>
                                                                                                                isSl v28 fun o97 n98 n99 =>
                                                                                                                  rd o97 fun a100 =>
                                                                                                                    ((0 : Int) ≤ i96 ∧ i96 < (↑n98 : Int)) ∧
                                                                                                                      rd
                                                                                                                        (World.cell? (World.drew w72)
                                                                                                                          (Addr.add a100 (Int.toNat i96 * (1 : Nat))))
                                                                                                                        fun v101 =>
                                                                                                                        isInt (u71 (12 : Nat)) fun k102 i103 =>
                                                                                                                          isSl v6 fun o104 n105 n106 =>
                                                                                                                            rd o104 fun a107 =>
                                                                                                                              ((0 : Int) ≤ i103 ∧ i103 < (↑n105 : Int)) ∧
                                                                                                                                rd
                                                                                                                                  (World.cell? (World.drew w72)
                                                                                                                                    (Addr.add a107 (Int.toNat i103 * (1 : Nat))))
                                                                                                                                  fun v108 =>
                                                                                                                                  rd
                                                                                                                                    (orO (binV BinOp.neq v101 v108)
                                                                                                                                      (eqV Try.prog BinOp.neq (9 : Nat) v101 v108))
                                                                                                                                    fun v109 =>
                                                                                                                                    isB v109 fun t110 =>
                                                                                                                                      br t110
                                                                                                                                        (R (Value.bool false) (World.drew w72))
                                                                                                                                        (rd
                                                                                                                                          (orO
                                                                                                                                            (binV BinOp.add (u71 (12 : Nat))
                                                                                                                                              (Value.int IntKind.i64 (1 : Int)))
                                                                                                                                            none)
                                                                                                                                          fun v111 =>
                                                                                                                                          again u69 u70 (alist [((12 : Nat), v111)])
                                                                                                                                            (World.drew w72)
                                                                                                                                            (alist [((12 : Nat), u71 (12 : Nat))])
                                                                                                                                            w72)))
                                                                                    (isB v0 fun t112 =>
                                                                                      br t112
                                                                                        (isSl v28 fun o113 n114 n115 =>
                                                                                          rd (orO (binV BinOp.add (Value.int IntKind.i64 (↑n114 : Int)) v30) none) fun v116 =>
                                                                                            isSl v6 fun o117 n118 n119 =>
                                                                                              rd
                                                                                                (orO (binV BinOp.eql v116 (Value.int IntKind.i64 (↑n118 : Int)))
                                                                                                  (eqV Try.prog BinOp.eql (3 : Nat) v116 (Value.int IntKind.i64 (↑n118 : Int))))
                                                                                                fun v120 => R v120 w72)
                                                                                        (R (Value.bool false) w72))))))))) :
  callV Try.prog 6 [Value.int IntKind.i64 a, Value.slice bp bn bc] w R :=
  vc_of hm ⟨fun _ => false, fun n => match n with | 22 => .take 0 (.take 1 (.take 2 (.take 3 (.take 4 (.take 5 (.take 6 (.take 7 (.take 8 (.take 9 (.take 10 (.take 11 (.take 12 (.take 13 (.take 14 (.take 15 (.take 16 (.take 17 (.take 18 (.take 19 (.done)))))))))))))))))))) | _ => .done, fun n => match n with | 7 => [7] | 13 => [10] | 20 => [12] | _ => []⟩ Try.func6 ent6 (by kernel_rfl) h

end Go.Proofs.Ytmhbgaledhfpkaa
