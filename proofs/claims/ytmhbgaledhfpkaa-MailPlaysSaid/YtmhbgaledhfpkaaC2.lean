/- The conditions of functions, written out: printed by a small program (VCDev.lean, vcgen.sh).  Conditions: none. -/
import Derived.Test.YtmhbgaledhfpkaaTab
namespace Go.Proofs.Ytmhbgaledhfpkaa
set_option linter.unusedSimpArgs false
set_option linter.unusedVariables false
open Go VC
theorem vc5 (a : Int) (bp : Option Addr) (bn : Nat) (bc : Nat) (w : World) (R : Value → World → Prop)
  (h : callV Try.prog (7 : Nat) [] w fun v0 w1 =>
  callV Try.prog (13 : Nat) [Value.int IntKind.i64 a] w1 fun v2 w3 =>
    callV Try.prog (14 : Nat) [Value.int IntKind.i64 a] w3 fun v4 w5 =>
      rd (orO (binV BinOp.eql v2 (Value.pointer none)) (eqV Try.prog BinOp.eql (32 : Nat) v2 (Value.pointer none))) fun v6 =>
        isB v6 fun t7 =>
          br t7 (R (Value.bool false) w5)
            (cutC
              (fun u8 =>
                loopC (alist [((8 : Nat), Value.int IntKind.i64 (0 : Int))]) w5 fun u9 u10 =>
                  ∀ (u11 : Nat → Value) (w12 : World),
                    u9 (alist [((8 : Nat), u11 (8 : Nat))]) w12 →
                      rd (orO (binV BinOp.lss (u11 (8 : Nat)) (Value.int IntKind.i64 (↑bn : Int))) none) fun v14 =>
                        isB v14 fun t15 =>
                          br t15
                            (rd (orO (binV BinOp.lss (u11 (8 : Nat)) (Value.int IntKind.i64 (300 : Int))) none) fun v16 =>
                              isB v16 fun t17 =>
                                br t17
                                  (cutC
                                    (fun u18 =>
                                      isInt (u11 (8 : Nat)) fun k19 i20 =>
                                        rd bp fun a21 =>
                                          ((0 : Int) ≤ i20 ∧ i20 < (↑bn : Int)) ∧
                                            rd (World.cell? w12 (Addr.add a21 (Int.toNat i20 * (2 : Nat)))) fun v22 =>
                                              rd
                                                (orO (binV BinOp.eql v22 (Value.int IntKind.i64 (0 : Int)))
                                                  (eqV Try.prog BinOp.eql (3 : Nat) v22 (Value.int IntKind.i64 (0 : Int))))
                                                fun v23 =>
                                                isB v23 fun t24 =>
                                                  br t24
                                                    (heldC (World.drew w12) fun u25 =>
                                                      (∀ (w26 : World), u25 w26 → v2 = v2 ∧ w26 = w26) ∧
                                                        (∀ (w28 : World), u25 w28 → Value.slice bp bn bc = Value.slice bp bn bc ∧ w28 = w28) ∧
                                                          (∀ (w30 : World), u25 w30 → u11 (8 : Nat) = u11 (8 : Nat) ∧ w30 = w30) ∧
                                                            isInt (u11 (8 : Nat)) fun k32 i33 =>
                                                              rd bp fun a34 =>
                                                                ((0 : Int) ≤ i33 ∧ i33 < (↑bn : Int)) ∧
                                                                  (∀ (w35 : World),
                                                                      u25 w35 →
                                                                        isInt (u11 (8 : Nat)) fun k37 i38 =>
                                                                          rd bp fun a39 =>
                                                                            ((0 : Int) ≤ i38 ∧ i38 < (↑bn : Int)) ∧
                                                                              Value.pointer (some (Addr.add a39 (Int.toNat i38 * (2 : Nat)))) =
                                                                                  Value.pointer (some (Addr.add a34 (Int.toNat i33 * (2 : Nat)))) ∧
                                                                                w35 = w35) ∧
                                                                    (∀ (w40 : World),
                                                                        u25 w40 →
                                                                          Value.pointer (some (Addr.add (Addr.add a34 (Int.toNat i33 * (2 : Nat))) (1 : Nat))) =
                                                                              Value.pointer (some (Addr.add (Addr.add a34 (Int.toNat i33 * (2 : Nat))) (1 : Nat))) ∧
                                                                            w40 = w40) ∧
                                                                      rd (World.cell? (World.drew w12) (Addr.add (Addr.add a34 (Int.toNat i33 * (2 : Nat))) (1 : Nat))) fun v42 =>
                                                                        (∀ (w43 : World),
                                                                            u25 w43 →
                                                                              rd (World.cell? w43 (Addr.add (Addr.add a34 (Int.toNat i33 * (2 : Nat))) (1 : Nat))) fun v45 =>
                                                                                v45 = v42 ∧ w43 = w43) ∧
                                                                          (∀ (w46 : World), u25 w46 → v4 = v4 ∧ w46 = w46) ∧
                                                                            (∀ (w48 : World), u25 w48 → Value.slice bp bn bc = Value.slice bp bn bc ∧ w48 = w48) ∧
                                                                              (∀ (w50 : World), u25 w50 → u11 (8 : Nat) = u11 (8 : Nat) ∧ w50 = w50) ∧
                                                                                isInt (u11 (8 : Nat)) fun k52 i53 =>
                                                                                  rd bp fun a54 =>
                                                                                    ((0 : Int) ≤ i53 ∧ i53 < (↑bn : Int)) ∧
                                                                                      (∀ (w55 : World),
                                                                                          u25 w55 →
                                                                                            isInt (u11 (8 : Nat)) fun k57 i58 =>
                                                                                              rd bp fun a59 =>
                                                                                                ((0 : Int) ≤ i58 ∧ i58 < (↑bn : Int)) ∧
                                                                                                  Value.pointer (some (Addr.add a59 (Int.toNat i58 * (2 : Nat)))) =
                                                                                                      Value.pointer (some (Addr.add a54 (Int.toNat i53 * (2 : Nat)))) ∧
                                                                                                    w55 = w55) ∧
                                                                                        (∀ (w60 : World),
                                                                                            u25 w60 →
                                                                                              Value.pointer (some (Addr.add (Addr.add a54 (Int.toNat i53 * (2 : Nat))) (1 : Nat))) =
                                                                                                  Value.pointer
                                                                                                    (some (Addr.add (Addr.add a54 (Int.toNat i53 * (2 : Nat))) (1 : Nat))) ∧
                                                                                                w60 = w60) ∧
                                                                                          rd
                                                                                            (World.cell? (World.drew w12)
                                                                                              (Addr.add (Addr.add a54 (Int.toNat i53 * (2 : Nat))) (1 : Nat)))
                                                                                            fun v62 =>
                                                                                            (∀ (w63 : World),
                                                                                                u25 w63 →
                                                                                                  rd
                                                                                                    (World.cell? w63
                                                                                                      (Addr.add (Addr.add a54 (Int.toNat i53 * (2 : Nat))) (1 : Nat)))
                                                                                                    fun v65 => v65 = v62 ∧ w63 = w63) ∧
                                                                                              callV Try.prog (15 : Nat) [v2, v42] (World.drew w12) fun v66 w67 =>
                                                                                                u25 w67 ∧
                                                                                                  callV Try.prog (16 : Nat) [v4, v62] w67 fun v68 w69 =>
                                                                                                    u25 w69 ∧
                                                                                                      rd (orO (binV BinOp.eql v66 v68) (eqV Try.prog BinOp.eql (4 : Nat) v66 v68))
                                                                                                        fun v70 =>
                                                                                                        (∀ (w71 : World),
                                                                                                            u25 w71 →
                                                                                                              rd
                                                                                                                (orO (binV BinOp.eql v66 v68)
                                                                                                                  (eqV Try.prog BinOp.eql (4 : Nat) v66 v68))
                                                                                                                fun v73 => v73 = v70 ∧ w71 = w71) ∧
                                                                                                          (∀ (w74 : World), u25 w74 → v70 = v70 ∧ w74 = w74) ∧
                                                                                                            u18 (alist [((9 : Nat), v70)]) w69)
                                                    (rd
                                                      (orO (binV BinOp.eql v22 (Value.int IntKind.i64 (1 : Int)))
                                                        (eqV Try.prog BinOp.eql (3 : Nat) v22 (Value.int IntKind.i64 (1 : Int))))
                                                      fun v76 =>
                                                      isB v76 fun t77 =>
                                                        br t77
                                                          (heldC (World.drew w12) fun u78 =>
                                                            (∀ (w79 : World), u78 w79 → v2 = v2 ∧ w79 = w79) ∧
                                                              (∀ (w81 : World), u78 w81 → Value.slice bp bn bc = Value.slice bp bn bc ∧ w81 = w81) ∧
                                                                (∀ (w83 : World), u78 w83 → u11 (8 : Nat) = u11 (8 : Nat) ∧ w83 = w83) ∧
                                                                  isInt (u11 (8 : Nat)) fun k85 i86 =>
                                                                    rd bp fun a87 =>
                                                                      ((0 : Int) ≤ i86 ∧ i86 < (↑bn : Int)) ∧
                                                                        (∀ (w88 : World),
                                                                            u78 w88 →
                                                                              isInt (u11 (8 : Nat)) fun k90 i91 =>
                                                                                rd bp fun a92 =>
                                                                                  ((0 : Int) ≤ i91 ∧ i91 < (↑bn : Int)) ∧
                                                                                    Value.pointer (some (Addr.add a92 (Int.toNat i91 * (2 : Nat)))) =
                                                                                        Value.pointer (some (Addr.add a87 (Int.toNat i86 * (2 : Nat)))) ∧
                                                                                      w88 = w88) ∧
                                                                          (∀ (w93 : World),
                                                                              u78 w93 →
                                                                                Value.pointer (some (Addr.add (Addr.add a87 (Int.toNat i86 * (2 : Nat))) (1 : Nat))) =
                                                                                    Value.pointer (some (Addr.add (Addr.add a87 (Int.toNat i86 * (2 : Nat))) (1 : Nat))) ∧
                                                                                  w93 = w93) ∧
                                                                            rd (World.cell? (World.drew w12) (Addr.add (Addr.add a87 (Int.toNat i86 * (2 : Nat))) (1 : Nat)))
                                                                              fun v95 =>
                                                                              (∀ (w96 : World),
                                                                                  u78 w96 →
                                                                                    rd (World.cell? w96 (Addr.add (Addr.add a87 (Int.toNat i86 * (2 : Nat))) (1 : Nat))) fun v98 =>
                                                                                      v98 = v95 ∧ w96 = w96) ∧
                                                                                (∀ (w99 : World), u78 w99 → v4 = v4 ∧ w99 = w99) ∧
                                                                                  (∀ (w101 : World), u78 w101 → Value.slice bp bn bc = Value.slice bp bn bc ∧ w101 = w101) ∧
                                                                                    (∀ (w103 : World), u78 w103 → u11 (8 : Nat) = u11 (8 : Nat) ∧ w103 = w103) ∧
                                                                                      isInt (u11 (8 : Nat)) fun k105 i106 =>
                                                                                        rd bp fun a107 =>
                                                                                          ((0 : Int) ≤ i106 ∧ i106 < (↑bn : Int)) ∧
                                                                                            (∀ (w108 : World),
                                                                                                u78 w108 →
                                                                                                  isInt (u11 (8 : Nat)) fun k110 i111 =>
                                                                                                    rd bp fun a112 =>
                                                                                                      ((0 : Int) ≤ i111 ∧ i111 < (↑bn : Int)) ∧
                                                                                                        Value.pointer (some (Addr.add a112 (Int.toNat i111 * (2 : Nat)))) =
                                                                                                            Value.pointer (some (Addr.add a107 (Int.toNat i106 * (2 : Nat)))) ∧
                                                                                                          w108 = w108) ∧
                                                                                              (∀ (w113 : World),
                                                                                                  u78 w113 →
                                                                                                    Value.pointer
                                                                                                          (some (Addr.add (Addr.add a107 (Int.toNat i106 * (2 : Nat))) (1 : Nat))) =
                                                                                                        Value.pointer
                                                                                                          (some (Addr.add (Addr.add a107 (Int.toNat i106 * (2 : Nat))) (1 : Nat))) ∧
                                                                                                      w113 = w113) ∧
                                                                                                rd
                                                                                                  (World.cell? (World.drew w12)
                                                                                                    (Addr.add (Addr.add a107 (Int.toNat i106 * (2 : Nat))) (1 : Nat)))
                                                                                                  fun v115 =>
                                                                                                  (∀ (w116 : World),
                                                                                                      u78 w116 →
                                                                                                        rd
                                                                                                          (World.cell? w116
                                                                                                            (Addr.add (Addr.add a107 (Int.toNat i106 * (2 : Nat))) (1 : Nat)))
                                                                                                          fun v118 => v118 = v115 ∧ w116 = w116) ∧
                                                                                                    callV Try.prog (15 : Nat) [v2, v95] (World.drew w12) fun v119 w120 =>
                                                                                                      u78 w120 ∧
                                                                                                        callV Try.prog (16 : Nat) [v4, v115] w120 fun v121 w122 =>
                                                                                                          u78 w122 ∧
                                                                                                            rd
                                                                                                              (orO (binV BinOp.eql v119 v121)
                                                                                                                (eqV Try.prog BinOp.eql (4 : Nat) v119 v121))
                                                                                                              fun v123 =>
                                                                                                              (∀ (w124 : World),
                                                                                                                  u78 w124 →
                                                                                                                    rd
                                                                                                                      (orO (binV BinOp.eql v119 v121)
                                                                                                                        (eqV Try.prog BinOp.eql (4 : Nat) v119 v121))
                                                                                                                      fun v126 => v126 = v123 ∧ w124 = w124) ∧
                                                                                                                (∀ (w127 : World), u78 w127 → v123 = v123 ∧ w127 = w127) ∧
                                                                                                                  u18 (alist [((9 : Nat), v123)]) w122)
                                                          (rd
                                                            (orO (binV BinOp.eql v22 (Value.int IntKind.i64 (2 : Int)))
                                                              (eqV Try.prog BinOp.eql (3 : Nat) v22 (Value.int IntKind.i64 (2 : Int))))
                                                            fun v129 =>
                                                            isB v129 fun t130 =>
                                                              br t130
                                                                (heldC (World.drew w12) fun u131 =>
                                                                  (∀ (w132 : World), u131 w132 → v2 = v2 ∧ w132 = w132) ∧
                                                                    (∀ (w134 : World), u131 w134 → Value.slice bp bn bc = Value.slice bp bn bc ∧ w134 = w134) ∧
                                                                      (∀ (w136 : World), u131 w136 → u11 (8 : Nat) = u11 (8 : Nat) ∧ w136 = w136) ∧
                                                                        isInt (u11 (8 : Nat)) fun k138 i139 =>
                                                                          rd bp fun a140 =>
                                                                            ((0 : Int) ≤ i139 ∧ i139 < (↑bn : Int)) ∧
                                                                              (∀ (w141 : World),
                                                                                  u131 w141 →
                                                                                    isInt (u11 (8 : Nat)) fun k143 i144 =>
                                                                                      rd bp fun a145 =>
                                                                                        ((0 : Int) ≤ i144 ∧ i144 < (↑bn : Int)) ∧
                                                                                          Value.pointer (some (Addr.add a145 (Int.toNat i144 * (2 : Nat)))) =
                                                                                              Value.pointer (some (Addr.add a140 (Int.toNat i139 * (2 : Nat)))) ∧
                                                                                            w141 = w141) ∧
                                                                                (∀ (w146 : World),
                                                                                    u131 w146 →
                                                                                      Value.pointer (some (Addr.add (Addr.add a140 (Int.toNat i139 * (2 : Nat))) (1 : Nat))) =
                                                                                          Value.pointer (some (Addr.add (Addr.add a140 (Int.toNat i139 * (2 : Nat))) (1 : Nat))) ∧
                                                                                        w146 = w146) ∧
                                                                                  rd
                                                                                    (World.cell? (World.drew w12) (Addr.add (Addr.add a140 (Int.toNat i139 * (2 : Nat))) (1 : Nat)))
                                                                                    fun v148 =>
                                                                                    (∀ (w149 : World),
                                                                                        u131 w149 →
                                                                                          rd (World.cell? w149 (Addr.add (Addr.add a140 (Int.toNat i139 * (2 : Nat))) (1 : Nat)))
                                                                                            fun v151 => v151 = v148 ∧ w149 = w149) ∧
                                                                                      (∀ (w152 : World), u131 w152 → v4 = v4 ∧ w152 = w152) ∧
                                                                                        (∀ (w154 : World), u131 w154 → Value.slice bp bn bc = Value.slice bp bn bc ∧ w154 = w154) ∧
                                                                                          (∀ (w156 : World), u131 w156 → u11 (8 : Nat) = u11 (8 : Nat) ∧ w156 = w156) ∧
                                                                                            isInt (u11 (8 : Nat)) fun k158 i159 =>
                                                                                              rd bp fun a160 =>
                                                                                                ((0 : Int) ≤ i159 ∧ i159 < (↑bn : Int)) ∧
                                                                                                  (∀ (w161 : World),
                                                                                                      u131 w161 →
                                                                                                        isInt (u11 (8 : Nat)) fun k163 i164 =>
                                                                                                          rd bp fun a165 =>
                                                                                                            ((0 : Int) ≤ i164 ∧ i164 < (↑bn : Int)) ∧
                                                                                                              Value.pointer (some (Addr.add a165 (Int.toNat i164 * (2 : Nat)))) =
                                                                                                                  Value.pointer
                                                                                                                    (some (Addr.add a160 (Int.toNat i159 * (2 : Nat)))) ∧
                                                                                                                w161 = w161) ∧
                                                                                                    (∀ (w166 : World),
                                                                                                        u131 w166 →
                                                                                                          Value.pointer
                                                                                                                (some
                                                                                                                  (Addr.add (Addr.add a160 (Int.toNat i159 * (2 : Nat)))
                                                                                                                    (1 : Nat))) =
                                                                                                              Value.pointer
                                                                                                                (some
                                                                                                                  (Addr.add (Addr.add a160 (Int.toNat i159 * (2 : Nat)))
                                                                                                                    (1 : Nat))) ∧
                                                                                                            w166 = w166) ∧
                                                                                                      rd
                                                                                                        (World.cell? (World.drew w12)
                                                                                                          (Addr.add (Addr.add a160 (Int.toNat i159 * (2 : Nat))) (1 : Nat)))
                                                                                                        fun v168 =>
                                                                                                        (∀ (w169 : World),
                                                                                                            u131 w169 →
                                                                                                              rd
                                                                                                                (World.cell? w169
                                                                                                                  (Addr.add (Addr.add a160 (Int.toNat i159 * (2 : Nat))) (1 : Nat)))
                                                                                                                fun v171 => v171 = v168 ∧ w169 = w169) ∧
                                                                                                          callV Try.prog (15 : Nat) [v2, v148] (World.drew w12) fun v172 w173 =>
                                                                                                            u131 w173 ∧
                                                                                                              callV Try.prog (16 : Nat) [v4, v168] w173 fun v174 w175 =>
                                                                                                                u131 w175 ∧
                                                                                                                  rd
                                                                                                                    (orO (binV BinOp.eql v172 v174)
                                                                                                                      (eqV Try.prog BinOp.eql (4 : Nat) v172 v174))
                                                                                                                    fun v176 =>
                                                                                                                    (∀ (w177 : World),
                                                                                                                        u131 w177 →
                                                                                                                          rd
                                                                                                                            (orO (binV BinOp.eql v172 v174)
                                                                                                                              (eqV Try.prog BinOp.eql (4 : Nat) v172 v174))
                                                                                                                            fun v179 => v179 = v176 ∧ w177 = w177) ∧
                                                                                                                      (∀ (w180 : World), u131 w180 → v176 = v176 ∧ w180 = w180) ∧
                                                                                                                        u18 (alist [((9 : Nat), v176)]) w175)
                                                                (rd
                                                                  (orO (binV BinOp.eql v22 (Value.int IntKind.i64 (3 : Int)))
                                                                    (eqV Try.prog BinOp.eql (3 : Nat) v22 (Value.int IntKind.i64 (3 : Int))))
                                                                  fun v182 =>
                                                                  isB v182 fun t183 =>
                                                                    br t183
                                                                      (callV Try.prog (17 : Nat) [v2] w12 fun v184 w185 =>
                                                                        isTup v184 fun l186 =>
                                                                          rd l186[(0 : Nat)]? fun v187 =>
                                                                            isTup v184 fun l188 =>
                                                                              rd l188[(1 : Nat)]? fun v189 =>
                                                                                callV Try.prog (18 : Nat) [v4] w185 fun v190 w191 =>
                                                                                  isTup v190 fun l192 =>
                                                                                    rd l192[(0 : Nat)]? fun v193 =>
                                                                                      isTup v190 fun l194 =>
                                                                                        rd l194[(1 : Nat)]? fun v195 =>
                                                                                          rd (orO (binV BinOp.eql v187 v193) (eqV Try.prog BinOp.eql (3 : Nat) v187 v193))
                                                                                            fun v196 =>
                                                                                            isB v196 fun t197 =>
                                                                                              br t197
                                                                                                (rd (orO (binV BinOp.eql v189 v195) (eqV Try.prog BinOp.eql (4 : Nat) v189 v195))
                                                                                                  fun v198 => u18 (alist [((9 : Nat), v198)]) w191)
                                                                                                (u18 (alist [((9 : Nat), Value.bool false)]) w191))
                                                                      (rd
                                                                        (orO (binV BinOp.eql v22 (Value.int IntKind.i64 (4 : Int)))
                                                                          (eqV Try.prog BinOp.eql (3 : Nat) v22 (Value.int IntKind.i64 (4 : Int))))
                                                                        fun v199 =>
                                                                        isB v199 fun t200 =>
                                                                          br t200
                                                                            (callV Try.prog (17 : Nat) [v2] w12 fun v201 w202 =>
                                                                              isTup v201 fun l203 =>
                                                                                rd l203[(0 : Nat)]? fun v204 =>
                                                                                  isTup v201 fun l205 =>
                                                                                    rd l205[(1 : Nat)]? fun v206 =>
                                                                                      callV Try.prog (18 : Nat) [v4] w202 fun v207 w208 =>
                                                                                        isTup v207 fun l209 =>
                                                                                          rd l209[(0 : Nat)]? fun v210 =>
                                                                                            isTup v207 fun l211 =>
                                                                                              rd l211[(1 : Nat)]? fun v212 =>
                                                                                                rd (orO (binV BinOp.eql v204 v210) (eqV Try.prog BinOp.eql (3 : Nat) v204 v210))
                                                                                                  fun v213 =>
                                                                                                  isB v213 fun t214 =>
                                                                                                    br t214
                                                                                                      (rd
                                                                                                        (orO (binV BinOp.eql v206 v212)
                                                                                                          (eqV Try.prog BinOp.eql (4 : Nat) v206 v212))
                                                                                                        fun v215 => u18 (alist [((9 : Nat), v215)]) w208)
                                                                                                      (u18 (alist [((9 : Nat), Value.bool false)]) w208))
                                                                            (rd
                                                                              (orO (binV BinOp.eql v22 (Value.int IntKind.i64 (5 : Int)))
                                                                                (eqV Try.prog BinOp.eql (3 : Nat) v22 (Value.int IntKind.i64 (5 : Int))))
                                                                              fun v216 =>
                                                                              isB v216 fun t217 =>
                                                                                br t217
                                                                                  (callV Try.prog (21 : Nat) [v2] w12 fun v218 w219 =>
                                                                                    callV Try.prog (22 : Nat) [v4] w219 fun v220 w221 =>
                                                                                      callV Try.prog (20 : Nat) [v218, v220] w221 fun v222 w223 =>
                                                                                        u18 (alist [((9 : Nat), v222)]) w223)
                                                                                  (u18 (alist [((9 : Nat), Value.bool true)]) w12)))))))
                                    fun u224 =>
                                    ∀ (u225 : Nat → Value) (w226 : World),
                                      u224 (alist [((9 : Nat), u225 (9 : Nat))]) w226 →
                                        heldC (World.drew w226) fun u228 =>
                                          (∀ (w229 : World), u228 w229 → u225 (9 : Nat) = u225 (9 : Nat) ∧ w229 = w229) ∧
                                            rd (unV UnOp.not (u225 (9 : Nat))) fun v231 =>
                                              (∀ (w232 : World), u228 w232 → rd (unV UnOp.not (u225 (9 : Nat))) fun v234 => v234 = v231 ∧ w232 = w232) ∧
                                                (∀ (w235 : World), u228 w235 → v231 = v231 ∧ w235 = w235) ∧
                                                  isB v231 fun t237 =>
                                                    br t237
                                                      (u228 (World.drew w226) ∧
                                                        (∀ (w238 : World), u228 w238 → Value.bool true = Value.bool true ∧ w238 = w238) ∧
                                                          (∀ (w240 : World), u228 w240 → Value.bool true = Value.bool true ∧ w240 = w240) ∧
                                                            u228 (World.drew w226) ∧
                                                              (∀ (w242 : World), u228 w242 → Value.bool true = Value.bool true ∧ w242 = w242) ∧
                                                                R (Value.bool false) (World.drew w226))
                                                      ((∀ (w244 : World), u228 w244 → v2 = v2 ∧ w244 = w244) ∧
                                                        (∀ (w246 : World), u228 w246 → v4 = v4 ∧ w246 = w246) ∧
                                                          rd (nilChk v4) fun v248 =>
                                                            (∀ (w249 : World), u228 w249 → rd (nilChk v4) fun v251 => v251 = v248 ∧ w249 = w249) ∧
                                                              isPtr v248 fun a252 =>
                                                                (∀ (w253 : World),
                                                                    u228 w253 →
                                                                      isPtr v248 fun a255 =>
                                                                        Value.pointer (some (Addr.add a255 (1 : Nat))) = Value.pointer (some (Addr.add a252 (1 : Nat))) ∧
                                                                          w253 = w253) ∧
                                                                  rd (World.cell? (World.drew w226) (Addr.add a252 (1 : Nat))) fun v256 =>
                                                                    (∀ (w257 : World),
                                                                        u228 w257 → rd (World.cell? w257 (Addr.add a252 (1 : Nat))) fun v259 => v259 = v256 ∧ w257 = w257) ∧
                                                                      isSl v256 fun o260 n261 n262 =>
                                                                        (∀ (w263 : World),
                                                                            u228 w263 →
                                                                              isSl v256 fun o265 n266 n267 =>
                                                                                Value.int IntKind.i64 (↑n266 : Int) = Value.int IntKind.i64 (↑n261 : Int) ∧ w263 = w263) ∧
                                                                          callV Try.prog (23 : Nat) [v2] (World.drew w226) fun v268 w269 =>
                                                                            u228 w269 ∧
                                                                              rd
                                                                                (orO (binV BinOp.neq v268 (Value.int IntKind.i64 (↑n261 : Int)))
                                                                                  (eqV Try.prog BinOp.neq (3 : Nat) v268 (Value.int IntKind.i64 (↑n261 : Int))))
                                                                                fun v270 =>
                                                                                (∀ (w271 : World),
                                                                                    u228 w271 →
                                                                                      rd
                                                                                        (orO (binV BinOp.neq v268 (Value.int IntKind.i64 (↑n261 : Int)))
                                                                                          (eqV Try.prog BinOp.neq (3 : Nat) v268 (Value.int IntKind.i64 (↑n261 : Int))))
                                                                                        fun v273 => v273 = v270 ∧ w271 = w271) ∧
                                                                                  (∀ (w274 : World), u228 w274 → v270 = v270 ∧ w274 = w274) ∧
                                                                                    (∀ (w276 : World), u228 w276 → v270 = v270 ∧ w276 = w276) ∧
                                                                                      isB v270 fun t278 =>
                                                                                        br t278
                                                                                          (u228 w269 ∧
                                                                                            (∀ (w279 : World), u228 w279 → Value.bool true = Value.bool true ∧ w279 = w279) ∧
                                                                                              R (Value.bool false) w269)
                                                                                          ((∀ (w281 : World), u228 w281 → v2 = v2 ∧ w281 = w281) ∧
                                                                                            (∀ (w283 : World), u228 w283 → v4 = v4 ∧ w283 = w283) ∧
                                                                                              rd (nilChk v4) fun v285 =>
                                                                                                (∀ (w286 : World),
                                                                                                    u228 w286 → rd (nilChk v4) fun v288 => v288 = v285 ∧ w286 = w286) ∧
                                                                                                  isPtr v285 fun a289 =>
                                                                                                    (∀ (w290 : World),
                                                                                                        u228 w290 →
                                                                                                          isPtr v285 fun a292 =>
                                                                                                            Value.pointer (some (Addr.add a292 (2 : Nat))) =
                                                                                                                Value.pointer (some (Addr.add a289 (2 : Nat))) ∧
                                                                                                              w290 = w290) ∧
                                                                                                      rd (World.cell? w269 (Addr.add a289 (2 : Nat))) fun v293 =>
                                                                                                        (∀ (w294 : World),
                                                                                                            u228 w294 →
                                                                                                              rd (World.cell? w294 (Addr.add a289 (2 : Nat))) fun v296 =>
                                                                                                                v296 = v293 ∧ w294 = w294) ∧
                                                                                                          callV Try.prog (19 : Nat) [v2] w269 fun v297 w298 =>
                                                                                                            u228 w298 ∧
                                                                                                              rd
                                                                                                                (orO (binV BinOp.neq v297 v293)
                                                                                                                  (eqV Try.prog BinOp.neq (3 : Nat) v297 v293))
                                                                                                                fun v299 =>
                                                                                                                (∀ (w300 : World),
                                                                                                                    u228 w300 →
                                                                                                                      rd
                                                                                                                        (orO (binV BinOp.neq v297 v293)
                                                                                                                          (eqV Try.prog BinOp.neq (3 : Nat) v297 v293))
                                                                                                                        fun v302 => v302 = v299 ∧ w300 = w300) ∧
                                                                                                                  (∀ (w303 : World), u228 w303 → v299 = v299 ∧ w303 = w303) ∧
                                                                                                                    isB v299 fun t305 =>
                                                                                                                      br t305 (R (Value.bool false) w298)
                                                                                                                        (rd
                                                                                                                          (orO
                                                                                                                            (binV BinOp.add (u11 (8 : Nat))
                                                                                                                              (Value.int IntKind.i64 (1 : Int)))
                                                                                                                            none)
                                                                                                                          fun v306 =>
                                                                                                                          again u9 u10 (alist [((8 : Nat), v306)]) w298
                                                                                                                            (alist [((8 : Nat), u11 (8 : Nat))]) w12))))
                                  (u8 (alist []) w12))
                            (u8 (alist []) w12))
              fun u307 =>
              ∀ (u308 : Nat → Value) (w309 : World),
                u307 (alist []) w309 →
                  heldC (World.drew w309) fun u311 =>
                    (∀ (w312 : World), u311 w312 → v0 = v0 ∧ w312 = w312) ∧
                      (∀ (w314 : World), u311 w314 → v0 = v0 ∧ w314 = w314) ∧
                        isB v0 fun t316 =>
                          br t316
                            ((∀ (w317 : World), u311 w317 → v2 = v2 ∧ w317 = w317) ∧
                              (∀ (w319 : World), u311 w319 → v4 = v4 ∧ w319 = w319) ∧
                                rd (nilChk v4) fun v321 =>
                                  (∀ (w322 : World), u311 w322 → rd (nilChk v4) fun v324 => v324 = v321 ∧ w322 = w322) ∧
                                    isPtr v321 fun a325 =>
                                      (∀ (w326 : World),
                                          u311 w326 →
                                            isPtr v321 fun a328 => Value.pointer (some (Addr.add a328 (1 : Nat))) = Value.pointer (some (Addr.add a325 (1 : Nat))) ∧ w326 = w326) ∧
                                        rd (World.cell? (World.drew w309) (Addr.add a325 (1 : Nat))) fun v329 =>
                                          (∀ (w330 : World), u311 w330 → rd (World.cell? w330 (Addr.add a325 (1 : Nat))) fun v332 => v332 = v329 ∧ w330 = w330) ∧
                                            callV Try.prog (21 : Nat) [v2] (World.drew w309) fun v333 w334 =>
                                              u311 w334 ∧
                                                callV Try.prog (20 : Nat) [v333, v329] w334 fun v335 w336 =>
                                                  u311 w336 ∧
                                                    (∀ (w337 : World), u311 w337 → v335 = v335 ∧ w337 = w337) ∧
                                                      (∀ (w339 : World), u311 w339 → v335 = v335 ∧ w339 = w339) ∧
                                                        isB v335 fun t341 =>
                                                          br t341
                                                            ((∀ (w342 : World), u311 w342 → v2 = v2 ∧ w342 = w342) ∧
                                                              callV Try.prog (23 : Nat) [v2] w336 fun v344 w345 =>
                                                                u311 w345 ∧
                                                                  rd
                                                                    (orO (binV BinOp.eql v344 (Value.int IntKind.i64 (0 : Int)))
                                                                      (eqV Try.prog BinOp.eql (3 : Nat) v344 (Value.int IntKind.i64 (0 : Int))))
                                                                    fun v346 =>
                                                                    (∀ (w347 : World),
                                                                        u311 w347 →
                                                                          rd
                                                                            (orO (binV BinOp.eql v344 (Value.int IntKind.i64 (0 : Int)))
                                                                              (eqV Try.prog BinOp.eql (3 : Nat) v344 (Value.int IntKind.i64 (0 : Int))))
                                                                            fun v349 => v349 = v346 ∧ w347 = w347) ∧
                                                                      (∀ (w350 : World), u311 w350 → v346 = v346 ∧ w350 = w350) ∧
                                                                        (∀ (w352 : World), u311 w352 → v346 = v346 ∧ w352 = w352) ∧ R v346 w345)
                                                            (u311 w336 ∧
                                                              (∀ (w354 : World), u311 w354 → Value.bool false = Value.bool false ∧ w354 = w354) ∧
                                                                (∀ (w356 : World), u311 w356 → Value.bool false = Value.bool false ∧ w356 = w356) ∧ R (Value.bool false) w336))
                            (u311 (World.drew w309) ∧
                              u311 (World.drew w309) ∧
                                (∀ (w358 : World), u311 w358 → Value.bool false = Value.bool false ∧ w358 = w358) ∧
                                  (∀ (w360 : World), u311 w360 → Value.bool false = Value.bool false ∧ w360 = w360) ∧
                                    u311 (World.drew w309) ∧
                                      (∀ (w362 : World), u311 w362 → Value.bool false = Value.bool false ∧ w362 = w362) ∧
                                        (∀ (w364 : World), u311 w364 → Value.bool false = Value.bool false ∧ w364 = w364) ∧ R (Value.bool false) (World.drew w309)))) :
  callV Try.prog 5 [Value.int IntKind.i64 a, Value.slice bp bn bc] w R :=
  vc_of hm ⟨fun n => match n with | 22 => true | 24 => true | _ => false, fun n => match n with | 14 => .take 0 (.take 1 (.take 2 (.take 3 (.take 4 (.take 5 (.take 7 (.take 8 (.take 9 (.take 10 (.take 11 (.take 12 (.one 6 (.one 13 (.take 14 (.take 15 (.done)))))))))))))))) | 22 => .take 0 (.take 1 (.take 2 (.take 3 (.take 5 (.take 6 (.take 7 (.take 8 (.take 9 (.one 4 (.take 10 (.take 11 (.take 12 (.take 13 (.take 15 (.take 16 (.take 17 (.take 18 (.one 14 (.take 19 (.take 20 (.done))))))))))))))))))))) | 24 => .take 0 (.take 1 (.take 2 (.take 4 (.take 5 (.take 6 (.take 7 (.one 3 (.one 8 (.take 9 (.take 10 (.take 11 (.one 12 (.take 13 (.take 14 (.take 15 (.done)))))))))))))))) | _ => .done, fun n => match n with | 24 => [] | 7 => [8] | 22 => [9] | _ => []⟩ Try.func5 ent5 (by kernel_rfl) h

end Go.Proofs.Ytmhbgaledhfpkaa
