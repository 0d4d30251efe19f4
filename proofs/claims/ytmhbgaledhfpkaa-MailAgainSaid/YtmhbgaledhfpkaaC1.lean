/- The conditions of functions, written out: printed by a small program (VCDev.lean, vcgen.sh).  Conditions: none. -/
import Derived.Test.YtmhbgaledhfpkaaTab
namespace Go.Proofs.Ytmhbgaledhfpkaa
set_option linter.unusedSimpArgs false
set_option linter.unusedVariables false
open Go VC
theorem vc3 (a : Int) (bp : Option Addr) (bn : Nat) (bc : Nat) (w : World) (R : Value → World → Prop)
  (h : callV Try.prog (7 : Nat) [] w fun v0 w1 =>
  callV Try.prog (8 : Nat) [Value.int IntKind.i64 a] w1 fun v2 w3 =>
    rd (orO (binV BinOp.eql v2 (Value.pointer none)) (eqV Try.prog BinOp.eql (24 : Nat) v2 (Value.pointer none))) fun v4 =>
      isB v4 fun t5 =>
        br t5 (R (Value.bool false) w3)
          (cutC
            (fun u6 =>
              loopC (alist [((7 : Nat), Value.slice none (0 : Nat) (0 : Nat)), ((8 : Nat), Value.int IntKind.i64 (0 : Int))]) w3 fun u7 u8 =>
                ∀ (u9 : Nat → Value) (w10 : World),
                  u7 (alist [((7 : Nat), u9 (7 : Nat)), ((8 : Nat), u9 (8 : Nat))]) w10 →
                    rd (orO (binV BinOp.lss (u9 (8 : Nat)) (Value.int IntKind.i64 (↑bn : Int))) none) fun v12 =>
                      isB v12 fun t13 =>
                        br t13
                          (rd (orO (binV BinOp.lss (u9 (8 : Nat)) (Value.int IntKind.i64 (200 : Int))) none) fun v14 =>
                            isB v14 fun t15 =>
                              br t15
                                (isInt (u9 (8 : Nat)) fun k16 i17 =>
                                  rd bp fun a18 =>
                                    ((0 : Int) ≤ i17 ∧ i17 < (↑bn : Int)) ∧
                                      rd (World.cell? w10 (Addr.add a18 (Int.toNat i17 * (1 : Nat)))) fun v19 =>
                                        callV Try.prog (9 : Nat) [v2, v19] w10 fun v20 w21 =>
                                          isB v20 fun t22 =>
                                            br t22
                                              (isInt (u9 (8 : Nat)) fun k23 i24 =>
                                                rd bp fun a25 =>
                                                  ((0 : Int) ≤ i24 ∧ i24 < (↑bn : Int)) ∧
                                                    rd (World.cell? w21 (Addr.add a25 (Int.toNat i24 * (1 : Nat)))) fun v26 =>
                                                      runs Try.prog (Instr.buildSlice (22 : Nat) (1 : Nat) #[((0 : Nat), v26)]) w21 fun v27 w28 =>
                                                        runs Try.prog (Builtin.append_ #[(22 : Nat), (22 : Nat)] (22 : Nat) #[u9 (7 : Nat), v27]) w28 fun v29 w30 =>
                                                          rd (orO (binV BinOp.add (u9 (8 : Nat)) (Value.int IntKind.i64 (1 : Int))) none) fun v31 =>
                                                            again u7 u8 (alist [((7 : Nat), v29), ((8 : Nat), v31)]) w30
                                                              (alist [((7 : Nat), u9 (7 : Nat)), ((8 : Nat), u9 (8 : Nat))]) w10)
                                              (rd (orO (binV BinOp.add (u9 (8 : Nat)) (Value.int IntKind.i64 (1 : Int))) none) fun v32 =>
                                                again u7 u8 (alist [((7 : Nat), u9 (7 : Nat)), ((8 : Nat), v32)]) w21 (alist [((7 : Nat), u9 (7 : Nat)), ((8 : Nat), u9 (8 : Nat))])
                                                  w10))
                                (u6 (alist [((7 : Nat), u9 (7 : Nat))]) w10))
                          (u6 (alist [((7 : Nat), u9 (7 : Nat))]) w10))
            fun u33 =>
            ∀ (u34 : Nat → Value) (w35 : World),
              u33 (alist [((7 : Nat), u34 (7 : Nat))]) w35 →
                isSl (u34 (7 : Nat)) fun o37 n38 n39 =>
                  br (!decide ((↑n38 : Int) = min (min (↑bn : Int) (200 : Int)) (min (max a (1 : Int)) (4096 : Int)))) (R (Value.bool false) w35)
                    (callV Try.prog (10 : Nat) [v2] w35 fun v40 w41 =>
                      isSl (u34 (7 : Nat)) fun o42 n43 n44 =>
                        rd (orO (binV BinOp.neq v40 (Value.int IntKind.i64 (↑n43 : Int))) (eqV Try.prog BinOp.neq (3 : Nat) v40 (Value.int IntKind.i64 (↑n43 : Int)))) fun v45 =>
                          isB v45 fun t46 =>
                            br t46 (R (Value.bool false) w41)
                              (callV Try.prog (11 : Nat) [v2] w41 fun v47 w48 =>
                                isSl (u34 (7 : Nat)) fun o49 n50 n51 =>
                                  rd
                                    (orO (binV BinOp.neq v47 (Value.int IntKind.i64 (IntKind.wrap IntKind.i64 (min (↑bn : Int) (200 : Int) - (↑n50 : Int)))))
                                      (eqV Try.prog BinOp.neq (3 : Nat) v47 (Value.int IntKind.i64 (IntKind.wrap IntKind.i64 (min (↑bn : Int) (200 : Int) - (↑n50 : Int))))))
                                    fun v52 =>
                                    isB v52 fun t53 =>
                                      br t53 (R (Value.bool false) w48)
                                        (loopC (alist [((11 : Nat), Value.int IntKind.i64 (0 : Int))]) w48 fun u54 u55 =>
                                          ∀ (u56 : Nat → Value) (w57 : World),
                                            u54 (alist [((11 : Nat), u56 (11 : Nat))]) w57 →
                                              isSl (u34 (7 : Nat)) fun o59 n60 n61 =>
                                                rd (orO (binV BinOp.lss (u56 (11 : Nat)) (Value.int IntKind.i64 (↑n60 : Int))) none) fun v62 =>
                                                  isB v62 fun t63 =>
                                                    br t63
                                                      (callV Try.prog (12 : Nat) [v2] w57 fun v64 w65 =>
                                                        isTup v64 fun l66 =>
                                                          rd l66[(0 : Nat)]? fun v67 =>
                                                            isTup v64 fun l68 =>
                                                              rd l68[(1 : Nat)]? fun v69 =>
                                                                rd (unV UnOp.not v69) fun v70 =>
                                                                  isB v70 fun t71 =>
                                                                    br t71 (R (Value.bool false) w65)
                                                                      (isInt (u56 (11 : Nat)) fun k72 i73 =>
                                                                        isSl (u34 (7 : Nat)) fun o74 n75 n76 =>
                                                                          rd o74 fun a77 =>
                                                                            ((0 : Int) ≤ i73 ∧ i73 < (↑n75 : Int)) ∧
                                                                              rd (World.cell? w65 (Addr.add a77 (Int.toNat i73 * (1 : Nat)))) fun v78 =>
                                                                                rd (orO (binV BinOp.neq v67 v78) (eqV Try.prog BinOp.neq (9 : Nat) v67 v78)) fun v79 =>
                                                                                  isB v79 fun t80 =>
                                                                                    br t80 (R (Value.bool false) w65)
                                                                                      (isInt (u56 (11 : Nat)) fun k81 i82 =>
                                                                                        rd bp fun a83 =>
                                                                                          ((0 : Int) ≤ i82 ∧ i82 < (↑bn : Int)) ∧
                                                                                            rd (World.cell? w65 (Addr.add a83 (Int.toNat i82 * (1 : Nat)))) fun v84 =>
                                                                                              rd (orO (binV BinOp.neq v67 v84) (eqV Try.prog BinOp.neq (9 : Nat) v67 v84))
                                                                                                fun v85 =>
                                                                                                isB v85 fun t86 =>
                                                                                                  br t86 (R (Value.bool false) w65)
                                                                                                    (rd
                                                                                                      (orO (binV BinOp.add (u56 (11 : Nat)) (Value.int IntKind.i64 (1 : Int))) none)
                                                                                                      fun v87 =>
                                                                                                      again u54 u55 (alist [((11 : Nat), v87)]) w65
                                                                                                        (alist [((11 : Nat), u56 (11 : Nat))]) w57))))
                                                      (callV Try.prog (12 : Nat) [v2] w57 fun v88 w89 =>
                                                        isTup v88 fun l90 =>
                                                          rd l90[(0 : Nat)]? fun v91 =>
                                                            isTup v88 fun l92 =>
                                                              rd l92[(1 : Nat)]? fun v93 =>
                                                                callV Try.prog (9 : Nat)
                                                                  [v2,
                                                                    Value.string { data := #[(97 : UInt8), (103 : UInt8), (97 : UInt8), (105 : UInt8), (110 : UInt8)] : ByteArray }]
                                                                  w89 fun v94 w95 =>
                                                                  isB v0 fun t96 =>
                                                                    br t96
                                                                      (rd (unV UnOp.not v93) fun v97 =>
                                                                        isB v97 fun t98 =>
                                                                          br t98
                                                                            (rd
                                                                              (orO (binV BinOp.eql v91 (Value.string { data := #[] : ByteArray }))
                                                                                (eqV Try.prog BinOp.eql (9 : Nat) v91 (Value.string { data := #[] : ByteArray })))
                                                                              fun v99 =>
                                                                              isB v99 fun t100 =>
                                                                                br t100
                                                                                  (isB v94 fun t101 =>
                                                                                    br t101
                                                                                      (callV Try.prog (10 : Nat) [v2] w95 fun v102 w103 =>
                                                                                        rd
                                                                                          (orO (binV BinOp.eql v102 (Value.int IntKind.i64 (1 : Int)))
                                                                                            (eqV Try.prog BinOp.eql (3 : Nat) v102 (Value.int IntKind.i64 (1 : Int))))
                                                                                          fun v104 => R v104 w103)
                                                                                      (R (Value.bool false) w95))
                                                                                  (R (Value.bool false) w95))
                                                                            (R (Value.bool false) w95))
                                                                      (R (Value.bool false) w95))))))) :
  callV Try.prog 3 [Value.int IntKind.i64 a, Value.slice bp bn bc] w R :=
  vc_of hm ⟨fun n => match n with | 11 => true | _ => false, fun _ => .done, fun n => match n with | 11 => [7] | 7 => [7, 8] | 16 => [11] | _ => []⟩ Try.func3 ent3 (by kernel_rfl) h

theorem vc4 (a : Int) (b : Int) (cp : Option Addr) (cn : Nat) (cc : Nat) (w : World) (R : Value → World → Prop)
  (h : callV Try.prog (7 : Nat) [] w fun v0 w1 =>
  callV Try.prog (13 : Nat) [Value.int IntKind.i64 a] w1 fun v2 w3 =>
    callV Try.prog (13 : Nat) [Value.int IntKind.i64 b] w3 fun v4 w5 =>
      callV Try.prog (14 : Nat) [Value.int IntKind.i64 a] w5 fun v6 w7 =>
        rd (orO (binV BinOp.eql v2 (Value.pointer none)) (eqV Try.prog BinOp.eql (32 : Nat) v2 (Value.pointer none))) fun v8 =>
          isB v8 fun t9 =>
            br t9 (R (Value.bool false) w7)
              (rd (orO (binV BinOp.eql v4 (Value.pointer none)) (eqV Try.prog BinOp.eql (32 : Nat) v4 (Value.pointer none))) fun v10 =>
                isB v10 fun t11 =>
                  br t11 (R (Value.bool false) w7)
                    (cutC
                      (fun u12 =>
                        loopC (alist [((11 : Nat), Value.int IntKind.i64 (0 : Int))]) w7 fun u13 u14 =>
                          ∀ (u15 : Nat → Value) (w16 : World),
                            u13 (alist [((11 : Nat), u15 (11 : Nat))]) w16 →
                              rd (orO (binV BinOp.lss (u15 (11 : Nat)) (Value.int IntKind.i64 (↑cn : Int))) none) fun v18 =>
                                isB v18 fun t19 =>
                                  br t19
                                    (rd (orO (binV BinOp.lss (u15 (11 : Nat)) (Value.int IntKind.i64 (100 : Int))) none) fun v20 =>
                                      isB v20 fun t21 =>
                                        br t21
                                          (callV Try.prog (15 : Nat) [v4, u15 (11 : Nat)] w16 fun v22 w23 =>
                                            isInt (u15 (11 : Nat)) fun k24 i25 =>
                                              rd cp fun a26 =>
                                                ((0 : Int) ≤ i25 ∧ i25 < (↑cn : Int)) ∧
                                                  rd (World.cell? w23 (Addr.add a26 (Int.toNat i25 * (2 : Nat)))) fun v27 =>
                                                    rd (orO (binV BinOp.lss v27 (Value.int IntKind.i64 (3 : Int))) none) fun v28 =>
                                                      isB v28 fun t29 =>
                                                        br t29
                                                          (heldC (World.drew w23) fun u30 =>
                                                            (∀ (w31 : World), u30 w31 → v2 = v2 ∧ w31 = w31) ∧
                                                              (∀ (w33 : World), u30 w33 → Value.slice cp cn cc = Value.slice cp cn cc ∧ w33 = w33) ∧
                                                                (∀ (w35 : World), u30 w35 → u15 (11 : Nat) = u15 (11 : Nat) ∧ w35 = w35) ∧
                                                                  isInt (u15 (11 : Nat)) fun k37 i38 =>
                                                                    rd cp fun a39 =>
                                                                      ((0 : Int) ≤ i38 ∧ i38 < (↑cn : Int)) ∧
                                                                        (∀ (w40 : World),
                                                                            u30 w40 →
                                                                              isInt (u15 (11 : Nat)) fun k42 i43 =>
                                                                                rd cp fun a44 =>
                                                                                  ((0 : Int) ≤ i43 ∧ i43 < (↑cn : Int)) ∧
                                                                                    Value.pointer (some (Addr.add a44 (Int.toNat i43 * (2 : Nat)))) =
                                                                                        Value.pointer (some (Addr.add a39 (Int.toNat i38 * (2 : Nat)))) ∧
                                                                                      w40 = w40) ∧
                                                                          (∀ (w45 : World),
                                                                              u30 w45 →
                                                                                Value.pointer (some (Addr.add (Addr.add a39 (Int.toNat i38 * (2 : Nat))) (1 : Nat))) =
                                                                                    Value.pointer (some (Addr.add (Addr.add a39 (Int.toNat i38 * (2 : Nat))) (1 : Nat))) ∧
                                                                                  w45 = w45) ∧
                                                                            rd (World.cell? (World.drew w23) (Addr.add (Addr.add a39 (Int.toNat i38 * (2 : Nat))) (1 : Nat)))
                                                                              fun v47 =>
                                                                              (∀ (w48 : World),
                                                                                  u30 w48 →
                                                                                    rd (World.cell? w48 (Addr.add (Addr.add a39 (Int.toNat i38 * (2 : Nat))) (1 : Nat))) fun v50 =>
                                                                                      v50 = v47 ∧ w48 = w48) ∧
                                                                                (∀ (w51 : World), u30 w51 → v6 = v6 ∧ w51 = w51) ∧
                                                                                  (∀ (w53 : World), u30 w53 → Value.slice cp cn cc = Value.slice cp cn cc ∧ w53 = w53) ∧
                                                                                    (∀ (w55 : World), u30 w55 → u15 (11 : Nat) = u15 (11 : Nat) ∧ w55 = w55) ∧
                                                                                      isInt (u15 (11 : Nat)) fun k57 i58 =>
                                                                                        rd cp fun a59 =>
                                                                                          ((0 : Int) ≤ i58 ∧ i58 < (↑cn : Int)) ∧
                                                                                            (∀ (w60 : World),
                                                                                                u30 w60 →
                                                                                                  isInt (u15 (11 : Nat)) fun k62 i63 =>
                                                                                                    rd cp fun a64 =>
                                                                                                      ((0 : Int) ≤ i63 ∧ i63 < (↑cn : Int)) ∧
                                                                                                        Value.pointer (some (Addr.add a64 (Int.toNat i63 * (2 : Nat)))) =
                                                                                                            Value.pointer (some (Addr.add a59 (Int.toNat i58 * (2 : Nat)))) ∧
                                                                                                          w60 = w60) ∧
                                                                                              (∀ (w65 : World),
                                                                                                  u30 w65 →
                                                                                                    Value.pointer
                                                                                                          (some (Addr.add (Addr.add a59 (Int.toNat i58 * (2 : Nat))) (1 : Nat))) =
                                                                                                        Value.pointer
                                                                                                          (some (Addr.add (Addr.add a59 (Int.toNat i58 * (2 : Nat))) (1 : Nat))) ∧
                                                                                                      w65 = w65) ∧
                                                                                                rd
                                                                                                  (World.cell? (World.drew w23)
                                                                                                    (Addr.add (Addr.add a59 (Int.toNat i58 * (2 : Nat))) (1 : Nat)))
                                                                                                  fun v67 =>
                                                                                                  (∀ (w68 : World),
                                                                                                      u30 w68 →
                                                                                                        rd
                                                                                                          (World.cell? w68
                                                                                                            (Addr.add (Addr.add a59 (Int.toNat i58 * (2 : Nat))) (1 : Nat)))
                                                                                                          fun v70 => v70 = v67 ∧ w68 = w68) ∧
                                                                                                    callV Try.prog (15 : Nat) [v2, v47] (World.drew w23) fun v71 w72 =>
                                                                                                      u30 w72 ∧
                                                                                                        callV Try.prog (16 : Nat) [v6, v67] w72 fun v73 w74 =>
                                                                                                          u30 w74 ∧
                                                                                                            rd
                                                                                                              (orO (binV BinOp.neq v71 v73)
                                                                                                                (eqV Try.prog BinOp.neq (4 : Nat) v71 v73))
                                                                                                              fun v75 =>
                                                                                                              (∀ (w76 : World),
                                                                                                                  u30 w76 →
                                                                                                                    rd
                                                                                                                      (orO (binV BinOp.neq v71 v73)
                                                                                                                        (eqV Try.prog BinOp.neq (4 : Nat) v71 v73))
                                                                                                                      fun v78 => v78 = v75 ∧ w76 = w76) ∧
                                                                                                                isB v75 fun t79 =>
                                                                                                                  br t79 (R (Value.bool false) w74)
                                                                                                                    (rd
                                                                                                                      (orO
                                                                                                                        (binV BinOp.add (u15 (11 : Nat))
                                                                                                                          (Value.int IntKind.i64 (1 : Int)))
                                                                                                                        none)
                                                                                                                      fun v80 =>
                                                                                                                      again u13 u14 (alist [((11 : Nat), v80)]) w74
                                                                                                                        (alist [((11 : Nat), u15 (11 : Nat))]) w16))
                                                          (callV Try.prog (17 : Nat) [v2] w23 fun v81 w82 =>
                                                            isTup v81 fun l83 =>
                                                              rd l83[(0 : Nat)]? fun v84 =>
                                                                isTup v81 fun l85 =>
                                                                  rd l85[(1 : Nat)]? fun v86 =>
                                                                    callV Try.prog (18 : Nat) [v6] w82 fun v87 w88 =>
                                                                      isTup v87 fun l89 =>
                                                                        rd l89[(0 : Nat)]? fun v90 =>
                                                                          isTup v87 fun l91 =>
                                                                            rd l91[(1 : Nat)]? fun v92 =>
                                                                              rd (orO (binV BinOp.neq v84 v90) (eqV Try.prog BinOp.neq (3 : Nat) v84 v90)) fun v93 =>
                                                                                isB v93 fun t94 =>
                                                                                  br t94 (R (Value.bool false) w88)
                                                                                    (rd (orO (binV BinOp.neq v86 v92) (eqV Try.prog BinOp.neq (4 : Nat) v86 v92)) fun v95 =>
                                                                                      isB v95 fun t96 =>
                                                                                        br t96 (R (Value.bool false) w88)
                                                                                          (rd (orO (binV BinOp.add (u15 (11 : Nat)) (Value.int IntKind.i64 (1 : Int))) none)
                                                                                            fun v97 =>
                                                                                            again u13 u14 (alist [((11 : Nat), v97)]) w88 (alist [((11 : Nat), u15 (11 : Nat))])
                                                                                              w16))))
                                          (u12 (alist []) w16))
                                    (u12 (alist []) w16))
                      fun u98 =>
                      ∀ (u99 : Nat → Value) (w100 : World),
                        u98 (alist []) w100 →
                          heldC (World.drew w100) fun u102 =>
                            (∀ (w103 : World), u102 w103 → v0 = v0 ∧ w103 = w103) ∧
                              (∀ (w105 : World), u102 w105 → v0 = v0 ∧ w105 = w105) ∧
                                isB v0 fun t107 =>
                                  br t107
                                    ((∀ (w108 : World), u102 w108 → v2 = v2 ∧ w108 = w108) ∧
                                      (∀ (w110 : World), u102 w110 → v6 = v6 ∧ w110 = w110) ∧
                                        rd (nilChk v6) fun v112 =>
                                          (∀ (w113 : World), u102 w113 → rd (nilChk v6) fun v115 => v115 = v112 ∧ w113 = w113) ∧
                                            isPtr v112 fun a116 =>
                                              (∀ (w117 : World),
                                                  u102 w117 →
                                                    isPtr v112 fun a119 =>
                                                      Value.pointer (some (Addr.add a119 (2 : Nat))) = Value.pointer (some (Addr.add a116 (2 : Nat))) ∧ w117 = w117) ∧
                                                rd (World.cell? (World.drew w100) (Addr.add a116 (2 : Nat))) fun v120 =>
                                                  (∀ (w121 : World), u102 w121 → rd (World.cell? w121 (Addr.add a116 (2 : Nat))) fun v123 => v123 = v120 ∧ w121 = w121) ∧
                                                    callV Try.prog (19 : Nat) [v2] (World.drew w100) fun v124 w125 =>
                                                      u102 w125 ∧
                                                        rd (orO (binV BinOp.eql v124 v120) (eqV Try.prog BinOp.eql (3 : Nat) v124 v120)) fun v126 =>
                                                          (∀ (w127 : World),
                                                              u102 w127 →
                                                                rd (orO (binV BinOp.eql v124 v120) (eqV Try.prog BinOp.eql (3 : Nat) v124 v120)) fun v129 =>
                                                                  v129 = v126 ∧ w127 = w127) ∧
                                                            (∀ (w130 : World), u102 w130 → v126 = v126 ∧ w130 = w130) ∧
                                                              (∀ (w132 : World), u102 w132 → v126 = v126 ∧ w132 = w132) ∧
                                                                isB v126 fun t134 =>
                                                                  br t134
                                                                    ((∀ (w135 : World), u102 w135 → v2 = v2 ∧ w135 = w135) ∧
                                                                      (∀ (w137 : World), u102 w137 → v6 = v6 ∧ w137 = w137) ∧
                                                                        callV Try.prog (21 : Nat) [v2] w125 fun v139 w140 =>
                                                                          u102 w140 ∧
                                                                            callV Try.prog (22 : Nat) [v6] w140 fun v141 w142 =>
                                                                              u102 w142 ∧
                                                                                callV Try.prog (20 : Nat) [v139, v141] w142 fun v143 w144 =>
                                                                                  u102 w144 ∧
                                                                                    (∀ (w145 : World), u102 w145 → v143 = v143 ∧ w145 = w145) ∧
                                                                                      (∀ (w147 : World), u102 w147 → v143 = v143 ∧ w147 = w147) ∧ R v143 w144)
                                                                    (u102 w125 ∧
                                                                      u102 w125 ∧
                                                                        u102 w125 ∧
                                                                          (∀ (w149 : World), u102 w149 → Value.bool false = Value.bool false ∧ w149 = w149) ∧
                                                                            (∀ (w151 : World), u102 w151 → Value.bool false = Value.bool false ∧ w151 = w151) ∧
                                                                              R (Value.bool false) w125))
                                    (u102 (World.drew w100) ∧
                                      (∀ (w153 : World), u102 w153 → Value.bool false = Value.bool false ∧ w153 = w153) ∧
                                        (∀ (w155 : World), u102 w155 → Value.bool false = Value.bool false ∧ w155 = w155) ∧
                                          u102 (World.drew w100) ∧
                                            u102 (World.drew w100) ∧
                                              u102 (World.drew w100) ∧
                                                (∀ (w157 : World), u102 w157 → Value.bool false = Value.bool false ∧ w157 = w157) ∧
                                                  (∀ (w159 : World), u102 w159 → Value.bool false = Value.bool false ∧ w159 = w159) ∧ R (Value.bool false) (World.drew w100))))) :
  callV Try.prog 4 [Value.int IntKind.i64 a, Value.int IntKind.i64 b, Value.slice cp cn cc] w R :=
  vc_of hm ⟨fun n => match n with | 18 => true | _ => false, fun n => match n with | 12 => .take 0 (.take 1 (.take 2 (.take 3 (.take 4 (.take 5 (.take 7 (.take 8 (.take 9 (.take 10 (.take 11 (.take 12 (.one 6 (.one 13 (.take 14 (.done))))))))))))))) | 18 => .take 0 (.take 1 (.take 2 (.take 4 (.take 5 (.take 6 (.take 7 (.one 3 (.take 8 (.take 9 (.take 10 (.take 11 (.take 13 (.one 12 (.one 14 (.one 15 (.take 16 (.take 17 (.done)))))))))))))))))) | _ => .done, fun n => match n with | 18 => [] | 8 => [11] | _ => []⟩ Try.func4 ent4 (by kernel_rfl) h

theorem vc6 (a : Int) (bp : Option Addr) (bn : Nat) (bc : Nat) (w : World) (R : Value → World → Prop)
  (h : callV Try.prog (7 : Nat) [] w fun v0 w1 =>
  callV Try.prog (8 : Nat) [Value.int IntKind.i64 a] w1 fun v2 w3 =>
    rd (orO (binV BinOp.eql v2 (Value.pointer none)) (eqV Try.prog BinOp.eql (24 : Nat) v2 (Value.pointer none))) fun v4 =>
      isB v4 fun t5 =>
        br t5 (R (Value.bool false) w3)
          (runs Try.prog (Instr.sliceAt (22 : Nat) (Value.slice bp bn bc) none (some (Value.int IntKind.i64 (min (↑bn : Int) (100 : Int)))) none) w3 fun v6 w7 =>
            loopC (alist [((7 : Nat), Value.int IntKind.i64 (0 : Int))]) w7 fun u8 u9 =>
              ∀ (u10 : Nat → Value) (w11 : World),
                u8 (alist [((7 : Nat), u10 (7 : Nat))]) w11 →
                  isSl v6 fun o13 n14 n15 =>
                    rd (orO (binV BinOp.lss (u10 (7 : Nat)) (Value.int IntKind.i64 (↑n14 : Int))) none) fun v16 =>
                      isB v16 fun t17 =>
                        br t17
                          (isInt (u10 (7 : Nat)) fun k18 i19 =>
                            isSl v6 fun o20 n21 n22 =>
                              rd o20 fun a23 =>
                                ((0 : Int) ≤ i19 ∧ i19 < (↑n21 : Int)) ∧
                                  rd (World.cell? w11 (Addr.add a23 (Int.toNat i19 * (1 : Nat)))) fun v24 =>
                                    callV Try.prog (9 : Nat) [v2, v24] w11 fun v25 w26 =>
                                      rd (orO (binV BinOp.add (u10 (7 : Nat)) (Value.int IntKind.i64 (1 : Int))) none) fun v27 =>
                                        again u8 u9 (alist [((7 : Nat), v27)]) w26 (alist [((7 : Nat), u10 (7 : Nat))]) w11)
                          (callV Try.prog (24 : Nat) [v2] w11 fun v28 w29 =>
                            callV Try.prog (11 : Nat) [v2] w29 fun v30 w31 =>
                              loopC (alist [((10 : Nat), Value.int IntKind.i64 (0 : Int))]) w31 fun u32 u33 =>
                                ∀ (u34 : Nat → Value) (w35 : World),
                                  u32 (alist [((10 : Nat), u34 (10 : Nat))]) w35 →
                                    isSl v6 fun o37 n38 n39 =>
                                      rd (orO (binV BinOp.lss (u34 (10 : Nat)) (Value.int IntKind.i64 (↑n38 : Int))) none) fun v40 =>
                                        isB v40 fun t41 =>
                                          br t41
                                            (isInt (u34 (10 : Nat)) fun k42 i43 =>
                                              isSl v6 fun o44 n45 n46 =>
                                                rd o44 fun a47 =>
                                                  ((0 : Int) ≤ i43 ∧ i43 < (↑n45 : Int)) ∧
                                                    rd (World.cell? w35 (Addr.add a47 (Int.toNat i43 * (1 : Nat)))) fun v48 =>
                                                      callV Try.prog (9 : Nat) [v2, v48] w35 fun v49 w50 =>
                                                        rd (orO (binV BinOp.add (u34 (10 : Nat)) (Value.int IntKind.i64 (1 : Int))) none) fun v51 =>
                                                          again u32 u33 (alist [((10 : Nat), v51)]) w50 (alist [((10 : Nat), u34 (10 : Nat))]) w35)
                                            (callV Try.prog (24 : Nat) [v2] w35 fun v52 w53 =>
                                              isSl v28 fun o54 n55 n56 =>
                                                isSl v52 fun o57 n58 n59 =>
                                                  br (!decide ((↑n55 : Int) = (↑n58 : Int))) (R (Value.bool false) w53)
                                                    (callV Try.prog (11 : Nat) [v2] w53 fun v60 w61 =>
                                                      rd (orO (binV BinOp.mul (Value.int IntKind.i64 (2 : Int)) v30) none) fun v62 =>
                                                        rd (orO (binV BinOp.neq v60 v62) (eqV Try.prog BinOp.neq (3 : Nat) v60 v62)) fun v63 =>
                                                          isB v63 fun t64 =>
                                                            br t64 (R (Value.bool false) w61)
                                                              (callV Try.prog (10 : Nat) [v2] w61 fun v65 w66 =>
                                                                rd
                                                                  (orO (binV BinOp.neq v65 (Value.int IntKind.i64 (0 : Int)))
                                                                    (eqV Try.prog BinOp.neq (3 : Nat) v65 (Value.int IntKind.i64 (0 : Int))))
                                                                  fun v67 =>
                                                                  isB v67 fun t68 =>
                                                                    br t68 (R (Value.bool false) w66)
                                                                      (loopC (alist [((12 : Nat), Value.int IntKind.i64 (0 : Int))]) w66 fun u69 u70 =>
                                                                        ∀ (u71 : Nat → Value) (w72 : World),
                                                                          u69 (alist [((12 : Nat), u71 (12 : Nat))]) w72 →
                                                                            isSl v28 fun o74 n75 n76 =>
                                                                              rd (orO (binV BinOp.lss (u71 (12 : Nat)) (Value.int IntKind.i64 (↑n75 : Int))) none) fun v77 =>
                                                                                isB v77 fun t78 =>
                                                                                  br t78
                                                                                    (isInt (u71 (12 : Nat)) fun k79 i80 =>
                                                                                      isSl v28 fun o81 n82 n83 =>
                                                                                        rd o81 fun a84 =>
                                                                                          ((0 : Int) ≤ i80 ∧ i80 < (↑n82 : Int)) ∧
                                                                                            rd (World.cell? (World.drew w72) (Addr.add a84 (Int.toNat i80 * (1 : Nat)))) fun v85 =>
                                                                                              isInt (u71 (12 : Nat)) fun k86 i87 =>
                                                                                                isSl v52 fun o88 n89 n90 =>
                                                                                                  rd o88 fun a91 =>
                                                                                                    ((0 : Int) ≤ i87 ∧ i87 < (↑n89 : Int)) ∧
                                                                                                      rd (World.cell? (World.drew w72) (Addr.add a91 (Int.toNat i87 * (1 : Nat))))
                                                                                                        fun v92 =>
                                                                                                        rd (orO (binV BinOp.neq v85 v92) (eqV Try.prog BinOp.neq (9 : Nat) v85 v92))
                                                                                                          fun v93 =>
                                                                                                          isB v93 fun t94 =>
                                                                                                            br t94 (R (Value.bool false) (World.drew w72))
                                                                                                              (isInt (u71 (12 : Nat)) fun k95 i96 =>
                                                                                                                isSl v28 fun o97 n98 n99 =>
                                                                                                                  rd o97 fun a100 =>
                                                                                                                    ((0 : Int) ≤ i96 ∧ i96 < (↑n98 : Int)) ∧
                                                                                                                      rd
                                                                                                                        (World.cell? (World.drew w72)
                                                                                                                          (Addr.add a100 (Int.toNat i96 * (1 : Nat))))
                                                                                                                        fun v101 =>
                                                                                                                        isInt (u71 (12 : Nat)) fun k102 i103 =>
                                                                                                                          isSl v6 fun o104 n105 n106 =>
                                                                                                                            rd o104 fun a107 =>
                                                                                                                              ((0 : Int) ≤ i103 ∧ i103 < (↑n105 : Int)) ∧
                                                                                                                                rd
                                                                                                                                  (World.cell? (World.drew w72)
                                                                                                                                    (Addr.add a107 (Int.toNat i103 * (1 : Nat))))
                                                                                                                                  fun v108 =>
                                                                                                                                  rd
                                                                                                                                    (orO (binV BinOp.neq v101 v108)
                                                                                                                                      (eqV Try.prog BinOp.neq (9 : Nat) v101 v108))
                                                                                                                                    fun v109 =>
                                                                                                                                    isB v109 fun t110 =>
                                                                                                                                      br t110
                                                                                                                                        (R (Value.bool false) (World.drew w72))
                                                                                                                                        (rd
                                                                                                                                          (orO
                                                                                                                                            (binV BinOp.add (u71 (12 : Nat))
                                                                                                                                              (Value.int IntKind.i64 (1 : Int)))
                                                                                                                                            none)
                                                                                                                                          fun v111 =>
                                                                                                                                          again u69 u70 (alist [((12 : Nat), v111)])
                                                                                                                                            (World.drew w72)
                                                                                                                                            (alist [((12 : Nat), u71 (12 : Nat))])
                                                                                                                                            w72)))
                                                                                    (isB v0 fun t112 =>
                                                                                      br t112
                                                                                        (isSl v28 fun o113 n114 n115 =>
                                                                                          rd (orO (binV BinOp.add (Value.int IntKind.i64 (↑n114 : Int)) v30) none) fun v116 =>
                                                                                            isSl v6 fun o117 n118 n119 =>
                                                                                              rd
                                                                                                (orO (binV BinOp.eql v116 (Value.int IntKind.i64 (↑n118 : Int)))
                                                                                                  (eqV Try.prog BinOp.eql (3 : Nat) v116 (Value.int IntKind.i64 (↑n118 : Int))))
                                                                                                fun v120 => R v120 w72)
                                                                                        (R (Value.bool false) w72))))))))) :
  callV Try.prog 6 [Value.int IntKind.i64 a, Value.slice bp bn bc] w R :=
  vc_of hm ⟨fun _ => false, fun n => match n with | 22 => .take 0 (.take 1 (.take 2 (.take 3 (.take 4 (.take 5 (.take 6 (.take 7 (.take 8 (.take 9 (.take 10 (.take 11 (.take 12 (.take 13 (.take 14 (.take 15 (.take 16 (.take 17 (.take 18 (.take 19 (.done)))))))))))))))))))) | _ => .done, fun n => match n with | 7 => [7] | 13 => [10] | 20 => [12] | _ => []⟩ Try.func6 ent6 (by kernel_rfl) h

end Go.Proofs.Ytmhbgaledhfpkaa
