/- The conditions of functions, written out: printed by a small program (VCDev.lean, vcgen.sh).  Conditions: none. -/
import Derived.Test.YtfekkdmnboccfaaTab
namespace Go.Proofs.Ytfekkdmnboccfaa
set_option linter.unusedSimpArgs false
set_option linter.unusedVariables false
open Go VC
theorem vc42 (a : Value) (b : Addr) (c : Int) (d : Int) (w : World) (R : Value → World → Prop)
  (h : heldC (World.drew w) fun u0 =>
  (∀ (w1 : World), u0 w1 → Value.pointer (some b) = Value.pointer (some b) ∧ w1 = w1) ∧
    (∀ (w3 : World), u0 w3 → Value.pointer (some b) = Value.pointer (some b) ∧ w3 = w3) ∧
      (∀ (w5 : World), u0 w5 → Value.pointer (some b) = Value.pointer (some b) ∧ w5 = w5) ∧
        (∀ (w7 : World), u0 w7 → Value.pointer (some b) = Value.pointer (some b) ∧ w7 = w7) ∧
          (∀ (w9 : World), u0 w9 → Value.pointer (some b) = Value.pointer (some b) ∧ w9 = w9) ∧
            (∀ (w11 : World), u0 w11 → Value.pointer (some (Addr.add b (1 : Nat))) = Value.pointer (some (Addr.add b (1 : Nat))) ∧ w11 = w11) ∧
              (∀ (w13 : World), u0 w13 → Value.pointer (some b) = Value.pointer (some b) ∧ w13 = w13) ∧
                (∀ (w15 : World), u0 w15 → Value.pointer (some b) = Value.pointer (some b) ∧ w15 = w15) ∧
                  (∀ (w17 : World), u0 w17 → Value.pointer (some (Addr.add b (2 : Nat))) = Value.pointer (some (Addr.add b (2 : Nat))) ∧ w17 = w17) ∧
                    (∀ (w19 : World), u0 w19 → Value.int IntKind.i64 (0 : Int) = Value.int IntKind.i64 (0 : Int) ∧ w19 = w19) ∧
                      runs Try.prog
                        (Instr.buildSlice (124 : Nat) (3 : Nat)
                          #[((0 : Nat), Value.pointer (some b)), ((1 : Nat), Value.pointer (some (Addr.add b (1 : Nat)))),
                            ((2 : Nat), Value.pointer (some (Addr.add b (2 : Nat))))])
                        (World.drew w) fun v21 w22 =>
                        isSl v21 fun o23 n24 n25 =>
                          u0 w22 ∧
                            (∀ (w26 : World), u0 w26 → Value.int IntKind.i64 (↑n24 : Int) = Value.int IntKind.i64 (↑n24 : Int) ∧ w26 = w26) ∧
                              loopC (alist [((21 : Nat), Value.int IntKind.i64 (0 : Int))]) w22 fun u28 u29 =>
                                ∀ (u30 : Nat → Value) (w31 : World),
                                  u28 (alist [((21 : Nat), u30 (21 : Nat))]) w31 →
                                    rd (orO (binV BinOp.lss (u30 (21 : Nat)) (Value.int IntKind.i64 (↑n24 : Int))) none) fun v33 =>
                                      isB v33 fun t34 =>
                                        br t34
                                          (cutC
                                            (fun u35 =>
                                              isInt (u30 (21 : Nat)) fun k36 i37 =>
                                                rd o23 fun a38 =>
                                                  ((0 : Int) ≤ i37 ∧ i37 < (↑n24 : Int)) ∧
                                                    rd (World.cell? w31 (Addr.add a38 (Int.toNat i37 * (1 : Nat)))) fun v39 =>
                                                      isP v39 fun o40 =>
                                                        isIf a fun n41 v42 =>
                                                          methV Try.prog n41 v42 "embrasure/message.signed" w31 fun n43 v44 =>
                                                            callV Try.prog n43 [v44, Value.pointer o40, Value.int IntKind.i64 c] w31 fun v45 w46 =>
                                                              heldC (World.drew w46) fun u47 =>
                                                                (∀ (w48 : World), u47 w48 → a = a ∧ w48 = w48) ∧
                                                                  (∀ (w50 : World), u47 w50 → Value.int IntKind.i64 d = Value.int IntKind.i64 d ∧ w50 = w50) ∧
                                                                    (∀ (w52 : World),
                                                                        u47 w52 → Value.bool (decide (d < (0 : Int))) = Value.bool (decide (d < (0 : Int))) ∧ w52 = w52) ∧
                                                                      (∀ (w54 : World),
                                                                          u47 w54 → Value.bool (decide (d < (0 : Int))) = Value.bool (decide (d < (0 : Int))) ∧ w54 = w54) ∧
                                                                        br (decide (d < (0 : Int)))
                                                                          ((∀ (w56 : World), u47 w56 → Value.bool true = Value.bool true ∧ w56 = w56) ∧
                                                                            (∀ (w58 : World),
                                                                                u47 w58 →
                                                                                  Value.func (Fn.method "embrasure/message.within") #[a] #[] =
                                                                                      Value.func (Fn.method "embrasure/message.within") #[a] #[] ∧
                                                                                    w58 = w58) ∧
                                                                              isIf a fun n60 v61 =>
                                                                                nilA Try.prog n60 v61 "embrasure/message.within" (World.drew w46)
                                                                                  ((∀ (w62 : World),
                                                                                      u47 w62 →
                                                                                        isIf a fun n64 v65 =>
                                                                                          nilA Try.prog n64 v65 "embrasure/message.within" w62
                                                                                            (Value.func (Fn.method "embrasure/message.within") #[a] #[] =
                                                                                                Value.func (Fn.method "embrasure/message.within") #[a] #[] ∧
                                                                                              w62 = w62)) ∧
                                                                                    (∀ (w66 : World), u47 w66 → a = a ∧ w66 = w66) ∧
                                                                                      isIf a fun n68 v69 =>
                                                                                        methV Try.prog n68 v69 "embrasure/message.within" (World.drew w46) fun n70 v71 =>
                                                                                          callV Try.prog n70 [v71, Value.bool true] (World.drew w46) fun v72 w73 =>
                                                                                            u47 w73 ∧ u35 (alist []) w73))
                                                                          ((∀ (w74 : World), u47 w74 → Value.pointer o40 = Value.pointer o40 ∧ w74 = w74) ∧
                                                                            rd (nilChk (Value.pointer o40)) fun v76 =>
                                                                              (∀ (w77 : World), u47 w77 → rd (nilChk (Value.pointer o40)) fun v79 => v79 = v76 ∧ w77 = w77) ∧
                                                                                isPtr v76 fun a80 =>
                                                                                  rd (World.cell? (World.drew w46) a80) fun v81 =>
                                                                                    (∀ (w82 : World),
                                                                                        u47 w82 → isPtr v76 fun a84 => rd (World.cell? w82 a84) fun v85 => v85 = v81 ∧ w82 = w82) ∧
                                                                                      isK IntKind.i64 v81 fun i86 =>
                                                                                        (∀ (w87 : World), u47 w87 → Value.int IntKind.i64 d = Value.int IntKind.i64 d ∧ w87 = w87) ∧
                                                                                          (∀ (w89 : World),
                                                                                              u47 w89 →
                                                                                                Value.int IntKind.i64 (IntKind.wrap IntKind.i64 ((0 : Int) - d)) =
                                                                                                    Value.int IntKind.i64 (IntKind.wrap IntKind.i64 ((0 : Int) - d)) ∧
                                                                                                  w89 = w89) ∧
                                                                                            (∀ (w91 : World),
                                                                                                u47 w91 →
                                                                                                  Value.bool (decide (IntKind.wrap IntKind.i64 ((0 : Int) - d) ≤ i86)) =
                                                                                                      Value.bool (decide (IntKind.wrap IntKind.i64 ((0 : Int) - d) ≤ i86)) ∧
                                                                                                    w91 = w91) ∧
                                                                                              (∀ (w93 : World),
                                                                                                  u47 w93 →
                                                                                                    Value.bool (decide (IntKind.wrap IntKind.i64 ((0 : Int) - d) ≤ i86)) =
                                                                                                        Value.bool (decide (IntKind.wrap IntKind.i64 ((0 : Int) - d) ≤ i86)) ∧
                                                                                                      w93 = w93) ∧
                                                                                                br (decide (IntKind.wrap IntKind.i64 ((0 : Int) - d) ≤ i86))
                                                                                                  ((∀ (w95 : World), u47 w95 → Value.pointer o40 = Value.pointer o40 ∧ w95 = w95) ∧
                                                                                                    rd (nilChk (Value.pointer o40)) fun v97 =>
                                                                                                      (∀ (w98 : World),
                                                                                                          u47 w98 →
                                                                                                            rd (nilChk (Value.pointer o40)) fun v100 => v100 = v97 ∧ w98 = w98) ∧
                                                                                                        isPtr v97 fun a101 =>
                                                                                                          rd (World.cell? (World.drew w46) a101) fun v102 =>
                                                                                                            (∀ (w103 : World),
                                                                                                                u47 w103 →
                                                                                                                  isPtr v97 fun a105 =>
                                                                                                                    rd (World.cell? w103 a105) fun v106 =>
                                                                                                                      v106 = v102 ∧ w103 = w103) ∧
                                                                                                              isK IntKind.i64 v102 fun i107 =>
                                                                                                                (∀ (w108 : World),
                                                                                                                    u47 w108 →
                                                                                                                      Value.int IntKind.i64 d = Value.int IntKind.i64 d ∧
                                                                                                                        w108 = w108) ∧
                                                                                                                  (∀ (w110 : World),
                                                                                                                      u47 w110 →
                                                                                                                        Value.bool (decide (i107 ≤ d)) =
                                                                                                                            Value.bool (decide (i107 ≤ d)) ∧
                                                                                                                          w110 = w110) ∧
                                                                                                                    (∀ (w112 : World),
                                                                                                                        u47 w112 →
                                                                                                                          Value.bool (decide (i107 ≤ d)) =
                                                                                                                              Value.bool (decide (i107 ≤ d)) ∧
                                                                                                                            w112 = w112) ∧
                                                                                                                      (∀ (w114 : World),
                                                                                                                          u47 w114 →
                                                                                                                            Value.bool (decide (i107 ≤ d)) =
                                                                                                                                Value.bool (decide (i107 ≤ d)) ∧
                                                                                                                              w114 = w114) ∧
                                                                                                                        (∀ (w116 : World),
                                                                                                                            u47 w116 →
                                                                                                                              Value.func (Fn.method "embrasure/message.within") #[a]
                                                                                                                                    #[] =
                                                                                                                                  Value.func (Fn.method "embrasure/message.within")
                                                                                                                                    #[a] #[] ∧
                                                                                                                                w116 = w116) ∧
                                                                                                                          isIf a fun n118 v119 =>
                                                                                                                            nilA Try.prog n118 v119 "embrasure/message.within"
                                                                                                                              (World.drew w46)
                                                                                                                              ((∀ (w120 : World),
                                                                                                                                  u47 w120 →
                                                                                                                                    isIf a fun n122 v123 =>
                                                                                                                                      nilA Try.prog n122 v123
                                                                                                                                        "embrasure/message.within" w120
                                                                                                                                        (Value.func
                                                                                                                                              (Fn.method "embrasure/message.within")
                                                                                                                                              #[a] #[] =
                                                                                                                                            Value.func
                                                                                                                                              (Fn.method "embrasure/message.within")
                                                                                                                                              #[a] #[] ∧
                                                                                                                                          w120 = w120)) ∧
                                                                                                                                (∀ (w124 : World), u47 w124 → a = a ∧ w124 = w124) ∧
                                                                                                                                  isIf a fun n126 v127 =>
                                                                                                                                    methV Try.prog n126 v127
                                                                                                                                      "embrasure/message.within" (World.drew w46)
                                                                                                                                      fun n128 v129 =>
                                                                                                                                      callV Try.prog n128
                                                                                                                                        [v129, Value.bool (decide (i107 ≤ d))]
                                                                                                                                        (World.drew w46) fun v130 w131 =>
                                                                                                                                        u47 w131 ∧ u35 (alist []) w131))
                                                                                                  ((∀ (w132 : World),
                                                                                                      u47 w132 → Value.bool false = Value.bool false ∧ w132 = w132) ∧
                                                                                                    (∀ (w134 : World),
                                                                                                        u47 w134 → Value.bool false = Value.bool false ∧ w134 = w134) ∧
                                                                                                      (∀ (w136 : World),
                                                                                                          u47 w136 →
                                                                                                            Value.func (Fn.method "embrasure/message.within") #[a] #[] =
                                                                                                                Value.func (Fn.method "embrasure/message.within") #[a] #[] ∧
                                                                                                              w136 = w136) ∧
                                                                                                        isIf a fun n138 v139 =>
                                                                                                          nilA Try.prog n138 v139 "embrasure/message.within" (World.drew w46)
                                                                                                            ((∀ (w140 : World),
                                                                                                                u47 w140 →
                                                                                                                  isIf a fun n142 v143 =>
                                                                                                                    nilA Try.prog n142 v143 "embrasure/message.within" w140
                                                                                                                      (Value.func (Fn.method "embrasure/message.within") #[a] #[] =
                                                                                                                          Value.func (Fn.method "embrasure/message.within") #[a]
                                                                                                                            #[] ∧
                                                                                                                        w140 = w140)) ∧
                                                                                                              (∀ (w144 : World), u47 w144 → a = a ∧ w144 = w144) ∧
                                                                                                                isIf a fun n146 v147 =>
                                                                                                                  methV Try.prog n146 v147 "embrasure/message.within"
                                                                                                                    (World.drew w46) fun n148 v149 =>
                                                                                                                    callV Try.prog n148 [v149, Value.bool false] (World.drew w46)
                                                                                                                      fun v150 w151 => u47 w151 ∧ u35 (alist []) w151))))
                                            fun u152 =>
                                            ∀ (u153 : Nat → Value) (w154 : World),
                                              u152 (alist []) w154 →
                                                rd (orO (binV BinOp.add (u30 (21 : Nat)) (Value.int IntKind.i64 (1 : Int))) none) fun v156 =>
                                                  isK IntKind.i64 v156 fun i157 =>
                                                    again u28 u29 (alist [((21 : Nat), Value.int IntKind.i64 i157)]) w154 (alist [((21 : Nat), u30 (21 : Nat))]) w31)
                                          (R (Value.tuple #[]) w31)) :
  callV Try.prog 42 [a, Value.pointer (some b), Value.int IntKind.i64 c, Value.int IntKind.i64 d] w R :=
  vc_of hm ⟨fun n => match n with | 5 => true | _ => false, fun n => match n with | 0 => .take 0 (.take 1 (.take 2 (.take 3 (.take 4 (.take 5 (.take 6 (.take 7 (.take 8 (.take 11 (.one 9 (.take 10 (.done)))))))))))) | 4 => .take 0 (.take 1 (.take 2 (.take 3 (.take 4 (.take 5 (.take 6 (.take 7 (.take 8 (.take 9 (.take 10 (.take 11 (.take 12 (.take 13 (.take 14 (.take 15 (.take 16 (.take 17 (.take 18 (.take 19 (.take 20 (.one 21 (.done)))))))))))))))))))))) | _ => .done, fun n => match n with | 1 => [21] | 5 => [] | _ => []⟩ Try.func42 ent42 (by kernel_rfl) h

theorem vc40 (a : Value) (b : Addr) (w : World) (R : Value → World → Prop)
  (h : callV Try.prog (41 : Nat) [a, Value.pointer (some b), Value.int IntKind.i64 (16 : Int)] w fun v0 w1 =>
  callV Try.prog (60 : Nat) [a, Value.pointer (some (Addr.add b (1 : Nat))), Value.int IntKind.i64 (2 : Int)] w1 fun v2 w3 =>
    heldC (World.drew w3) fun u4 =>
      (∀ (w5 : World), u4 w5 → Value.pointer (some b) = Value.pointer (some b) ∧ w5 = w5) ∧
        (∀ (w7 : World), u4 w7 → Value.pointer (some b) = Value.pointer (some b) ∧ w7 = w7) ∧
          (∀ (w9 : World), u4 w9 → Value.pointer (some (Addr.add b (2 : Nat))) = Value.pointer (some (Addr.add b (2 : Nat))) ∧ w9 = w9) ∧
            (∀ (w11 : World), u4 w11 → Value.pointer (some b) = Value.pointer (some b) ∧ w11 = w11) ∧
              (∀ (w13 : World), u4 w13 → Value.pointer (some b) = Value.pointer (some b) ∧ w13 = w13) ∧
                (∀ (w15 : World), u4 w15 → Value.pointer (some (Addr.add b (3 : Nat))) = Value.pointer (some (Addr.add b (3 : Nat))) ∧ w15 = w15) ∧
                  (∀ (w17 : World), u4 w17 → Value.int IntKind.i64 (0 : Int) = Value.int IntKind.i64 (0 : Int) ∧ w17 = w17) ∧
                    runs Try.prog
                      (Instr.buildSlice (121 : Nat) (2 : Nat) #[((0 : Nat), Value.pointer (some (Addr.add b (2 : Nat)))), ((1 : Nat), Value.pointer (some (Addr.add b (3 : Nat))))])
                      (World.drew w3) fun v19 w20 =>
                      isSl v19 fun o21 n22 n23 =>
                        u4 w20 ∧
                          (∀ (w24 : World), u4 w24 → Value.int IntKind.i64 (↑n22 : Int) = Value.int IntKind.i64 (↑n22 : Int) ∧ w24 = w24) ∧
                            loopC (alist [((26 : Nat), Value.int IntKind.i64 (0 : Int))]) w20 fun u26 u27 =>
                              ∀ (u28 : Nat → Value) (w29 : World),
                                u26 (alist [((26 : Nat), u28 (26 : Nat))]) w29 →
                                  rd (orO (binV BinOp.lss (u28 (26 : Nat)) (Value.int IntKind.i64 (↑n22 : Int))) none) fun v31 =>
                                    isB v31 fun t32 =>
                                      br t32
                                        (isInt (u28 (26 : Nat)) fun k33 i34 =>
                                          rd o21 fun a35 =>
                                            ((0 : Int) ≤ i34 ∧ i34 < (↑n22 : Int)) ∧
                                              rd (World.cell? w29 (Addr.add a35 (Int.toNat i34 * (1 : Nat)))) fun v36 =>
                                                isP v36 fun o37 =>
                                                  rd (nilChk (Value.pointer o37)) fun v38 =>
                                                    isPtr v38 fun a39 =>
                                                      rd (World.cell? w29 a39) fun v40 =>
                                                        isK IntKind.i8 v40 fun i41 =>
                                                          allocC w29 (Obj.cells #[Value.int IntKind.i64 (0 : Int)] (2 : Nat)) fun n42 w43 =>
                                                            stC w43 { block := n42, off := (0 : Nat) : Addr } [Value.int IntKind.i64 (IntKind.wrap IntKind.i64 i41)] fun w44 =>
                                                              isIf a fun n45 v46 =>
                                                                methV Try.prog n45 v46 "embrasure/message.signed" w44 fun n47 v48 =>
                                                                  callV Try.prog n47
                                                                    [v48, Value.pointer (some { block := n42, off := (0 : Nat) : Addr }), Value.int IntKind.i64 (8 : Int)] w44
                                                                    fun v49 w50 =>
                                                                    rd (World.cell? w50 { block := n42, off := (0 : Nat) : Addr }) fun v51 =>
                                                                      isK IntKind.i64 v51 fun i52 =>
                                                                        rd (nilChk (Value.pointer o37)) fun v53 =>
                                                                          isPtr v53 fun a54 =>
                                                                            stC w50 a54 [Value.int IntKind.i8 (IntKind.wrap IntKind.i8 i52)] fun w55 =>
                                                                              rd (orO (binV BinOp.add (u28 (26 : Nat)) (Value.int IntKind.i64 (1 : Int))) none) fun v56 =>
                                                                                isK IntKind.i64 v56 fun i57 =>
                                                                                  again u26 u27 (alist [((26 : Nat), Value.int IntKind.i64 i57)]) w55
                                                                                    (alist [((26 : Nat), u28 (26 : Nat))]) w29)
                                        (rd (World.cell? w29 (Addr.add b (4 : Nat))) fun v58 =>
                                          isK IntKind.i64 v58 fun i59 =>
                                            allocC w29 (Obj.cells #[Value.int IntKind.i64 (0 : Int)] (3 : Nat)) fun n60 w61 =>
                                              stC w61 { block := n60, off := (0 : Nat) : Addr } [Value.int IntKind.i64 (IntKind.wrap IntKind.i64 (i59 - (1 : Int)))] fun w62 =>
                                                callV Try.prog (30 : Nat) [a, Value.pointer (some { block := n60, off := (0 : Nat) : Addr }), Value.int IntKind.i64 (3 : Int)] w62
                                                  fun v63 w64 =>
                                                  rd (World.cell? w64 { block := n60, off := (0 : Nat) : Addr }) fun v65 =>
                                                    isK IntKind.i64 v65 fun i66 =>
                                                      stC w64 (Addr.add b (4 : Nat)) [Value.int IntKind.i64 (IntKind.wrap IntKind.i64 (i66 + (1 : Int)))] fun w67 =>
                                                        R (Value.tuple #[]) w67)) :
  callV Try.prog 40 [a, Value.pointer (some b)] w R :=
  vc_of hm ⟨fun n => match n with | 27 => true | _ => false, fun n => match n with | 2 => .take 0 (.take 1 (.take 2 (.take 3 (.take 4 (.take 5 (.take 8 (.one 6 (.take 7 (.done))))))))) | _ => .done, fun n => match n with | 3 => [26] | _ => []⟩ Try.func40 ent40 (by kernel_rfl) h

theorem vc22 (a : Value) (b : Addr) (w : World) (R : Value → World → Prop)
  (h : rd (World.cell? w b) fun v0 =>
  isK IntKind.i64 v0 fun i1 =>
    cutC
      (fun u2 =>
        br (decide (i1 = (1 : Int))) (R (Value.bool true) w)
          (br (decide (i1 = (4 : Int))) (R (Value.bool true) w)
            (br (decide (i1 = (2 : Int))) (callV Try.prog (40 : Nat) [a, Value.pointer (some (Addr.add b (2 : Nat)))] w fun v3 w4 => R (Value.bool true) w4)
              (br (decide (i1 = (3 : Int)))
                (callV Try.prog (41 : Nat) [a, Value.pointer (some (Addr.add b (7 : Nat))), Value.int IntKind.i64 (16 : Int)] w fun v5 w6 =>
                  callV Try.prog (30 : Nat) [a, Value.pointer (some (Addr.add b (9 : Nat))), Value.int IntKind.i64 (1 : Int)] w6 fun v7 w8 =>
                    callV Try.prog (42 : Nat) [a, Value.pointer (some (Addr.add b (10 : Nat))), Value.int IntKind.i64 (18 : Int), Value.int IntKind.i64 (65536 : Int)] w8
                      fun v9 w10 => R (Value.bool true) w10)
                (br (decide (i1 = (6 : Int)))
                  (callV Try.prog (41 : Nat) [a, Value.pointer (some (Addr.add b (1 : Nat))), Value.int IntKind.i64 (16 : Int)] w fun v11 w12 =>
                    callV Try.prog (42 : Nat) [a, Value.pointer (some (Addr.add b (14 : Nat))), Value.int IntKind.i64 (32 : Int), Value.int IntKind.i64 (-1 : Int)] w12
                      fun v13 w14 =>
                      callV Try.prog (42 : Nat) [a, Value.pointer (some (Addr.add b (17 : Nat))), Value.int IntKind.i64 (32 : Int), Value.int IntKind.i64 (-1 : Int)] w14
                        fun v15 w16 => R (Value.bool true) w16)
                  (br (decide (i1 = (7 : Int)))
                    (callV Try.prog (41 : Nat) [a, Value.pointer (some (Addr.add b (7 : Nat))), Value.int IntKind.i64 (16 : Int)] w fun v17 w18 =>
                      callV Try.prog (43 : Nat) [a, Value.pointer (some (Addr.add b (8 : Nat)))] w18 fun v19 w20 => R (Value.bool true) w20)
                    (br (decide (i1 = (5 : Int))) (callV Try.prog (43 : Nat) [a, Value.pointer (some (Addr.add b (8 : Nat)))] w fun v21 w22 => R (Value.bool true) w22)
                      (br (decide (i1 = (8 : Int))) (u2 (alist []) w)
                        (br (decide (i1 = (9 : Int)))
                          (callV Try.prog (45 : Nat) [a, Value.pointer (some (Addr.add b (20 : Nat))), Value.int IntKind.i64 (32 : Int)] w fun v23 w24 =>
                            callV Try.prog (45 : Nat) [a, Value.pointer (some (Addr.add b (21 : Nat))), Value.int IntKind.i64 (32 : Int)] w24 fun v25 w26 =>
                              heldC (World.drew w26) fun u27 =>
                                (∀ (w28 : World), u27 w28 → a = a ∧ w28 = w28) ∧
                                  (∀ (w30 : World), u27 w30 → Value.pointer (some b) = Value.pointer (some b) ∧ w30 = w30) ∧
                                    (∀ (w32 : World), u27 w32 → Value.pointer (some b) = Value.pointer (some b) ∧ w32 = w32) ∧
                                      (∀ (w34 : World), u27 w34 → Value.pointer (some (Addr.add b (22 : Nat))) = Value.pointer (some (Addr.add b (22 : Nat))) ∧ w34 = w34) ∧
                                        (∀ (w36 : World),
                                            u27 w36 →
                                              Value.func (Fn.method "embrasure/message.bytes") #[a] #[] = Value.func (Fn.method "embrasure/message.bytes") #[a] #[] ∧ w36 = w36) ∧
                                          isIf a fun n38 v39 =>
                                            nilA Try.prog n38 v39 "embrasure/message.bytes" (World.drew w26)
                                              ((∀ (w40 : World),
                                                  u27 w40 →
                                                    isIf a fun n42 v43 =>
                                                      nilA Try.prog n42 v43 "embrasure/message.bytes" w40
                                                        (Value.func (Fn.method "embrasure/message.bytes") #[a] #[] = Value.func (Fn.method "embrasure/message.bytes") #[a] #[] ∧
                                                          w40 = w40)) ∧
                                                (∀ (w44 : World), u27 w44 → a = a ∧ w44 = w44) ∧
                                                  isIf a fun n46 v47 =>
                                                    methV Try.prog n46 v47 "embrasure/message.bytes" (World.drew w26) fun n48 v49 =>
                                                      callV Try.prog n48 [v49, Value.pointer (some (Addr.add b (22 : Nat))), Value.int IntKind.i64 (10 : Int)] (World.drew w26)
                                                        fun v50 w51 => u27 w51 ∧ R (Value.bool true) w51))
                          (R (Value.bool false) w))))))))))
      fun u52 =>
      ∀ (u53 : Nat → Value) (w54 : World),
        u52 (alist []) w54 →
          callV Try.prog (41 : Nat) [a, Value.pointer (some (Addr.add b (7 : Nat))), Value.int IntKind.i64 (16 : Int)] w54 fun v56 w57 =>
            callV Try.prog (44 : Nat) [a, Value.pointer (some (Addr.add b (13 : Nat))), Value.int IntKind.i64 (4 : Int)] w57 fun v58 w59 =>
              heldC (World.drew w59) fun u60 =>
                (∀ (w61 : World), u60 w61 → a = a ∧ w61 = w61) ∧
                  (∀ (w63 : World), u60 w63 → Value.pointer (some b) = Value.pointer (some b) ∧ w63 = w63) ∧
                    (∀ (w65 : World), u60 w65 → Value.pointer (some b) = Value.pointer (some b) ∧ w65 = w65) ∧
                      (∀ (w67 : World), u60 w67 → Value.pointer (some (Addr.add b (13 : Nat))) = Value.pointer (some (Addr.add b (13 : Nat))) ∧ w67 = w67) ∧
                        rd (World.cell? (World.drew w59) (Addr.add b (13 : Nat))) fun v69 =>
                          (∀ (w70 : World), u60 w70 → rd (World.cell? w70 (Addr.add b (13 : Nat))) fun v72 => v72 = v69 ∧ w70 = w70) ∧
                            isK IntKind.i64 v69 fun i73 =>
                              (∀ (w74 : World), u60 w74 → Value.bool (decide ((1 : Int) ≤ i73)) = Value.bool (decide ((1 : Int) ≤ i73)) ∧ w74 = w74) ∧
                                (∀ (w76 : World), u60 w76 → Value.bool (decide ((1 : Int) ≤ i73)) = Value.bool (decide ((1 : Int) ≤ i73)) ∧ w76 = w76) ∧
                                  br (decide ((1 : Int) ≤ i73))
                                    ((∀ (w78 : World), u60 w78 → Value.pointer (some b) = Value.pointer (some b) ∧ w78 = w78) ∧
                                      (∀ (w80 : World), u60 w80 → Value.pointer (some b) = Value.pointer (some b) ∧ w80 = w80) ∧
                                        (∀ (w82 : World), u60 w82 → Value.pointer (some (Addr.add b (13 : Nat))) = Value.pointer (some (Addr.add b (13 : Nat))) ∧ w82 = w82) ∧
                                          rd (World.cell? (World.drew w59) (Addr.add b (13 : Nat))) fun v84 =>
                                            (∀ (w85 : World), u60 w85 → rd (World.cell? w85 (Addr.add b (13 : Nat))) fun v87 => v87 = v84 ∧ w85 = w85) ∧
                                              isK IntKind.i64 v84 fun i88 =>
                                                (∀ (w89 : World), u60 w89 → Value.bool (decide (i88 ≤ (10 : Int))) = Value.bool (decide (i88 ≤ (10 : Int))) ∧ w89 = w89) ∧
                                                  (∀ (w91 : World), u60 w91 → Value.bool (decide (i88 ≤ (10 : Int))) = Value.bool (decide (i88 ≤ (10 : Int))) ∧ w91 = w91) ∧
                                                    (∀ (w93 : World),
                                                        u60 w93 →
                                                          Value.func (Fn.method "embrasure/message.within") #[a] #[] = Value.func (Fn.method "embrasure/message.within") #[a] #[] ∧
                                                            w93 = w93) ∧
                                                      isIf a fun n95 v96 =>
                                                        nilA Try.prog n95 v96 "embrasure/message.within" (World.drew w59)
                                                          ((∀ (w97 : World),
                                                              u60 w97 →
                                                                isIf a fun n99 v100 =>
                                                                  nilA Try.prog n99 v100 "embrasure/message.within" w97
                                                                    (Value.func (Fn.method "embrasure/message.within") #[a] #[] =
                                                                        Value.func (Fn.method "embrasure/message.within") #[a] #[] ∧
                                                                      w97 = w97)) ∧
                                                            (∀ (w101 : World), u60 w101 → a = a ∧ w101 = w101) ∧
                                                              isIf a fun n103 v104 =>
                                                                methV Try.prog n103 v104 "embrasure/message.within" (World.drew w59) fun n105 v106 =>
                                                                  callV Try.prog n105 [v106, Value.bool (decide (i88 ≤ (10 : Int)))] (World.drew w59) fun v107 w108 =>
                                                                    u60 w108 ∧ R (Value.bool true) w108))
                                    ((∀ (w109 : World), u60 w109 → Value.bool false = Value.bool false ∧ w109 = w109) ∧
                                      (∀ (w111 : World),
                                          u60 w111 →
                                            Value.func (Fn.method "embrasure/message.within") #[a] #[] = Value.func (Fn.method "embrasure/message.within") #[a] #[] ∧ w111 = w111) ∧
                                        isIf a fun n113 v114 =>
                                          nilA Try.prog n113 v114 "embrasure/message.within" (World.drew w59)
                                            ((∀ (w115 : World),
                                                u60 w115 →
                                                  isIf a fun n117 v118 =>
                                                    nilA Try.prog n117 v118 "embrasure/message.within" w115
                                                      (Value.func (Fn.method "embrasure/message.within") #[a] #[] = Value.func (Fn.method "embrasure/message.within") #[a] #[] ∧
                                                        w115 = w115)) ∧
                                              (∀ (w119 : World), u60 w119 → a = a ∧ w119 = w119) ∧
                                                isIf a fun n121 v122 =>
                                                  methV Try.prog n121 v122 "embrasure/message.within" (World.drew w59) fun n123 v124 =>
                                                    callV Try.prog n123 [v124, Value.bool false] (World.drew w59) fun v125 w126 => u60 w126 ∧ R (Value.bool true) w126))) :
  callV Try.prog 22 [a, Value.pointer (some b)] w R :=
  vc_of hm ⟨fun n => match n with | 20 => true | _ => false, fun n => match n with | 22 => .take 0 (.take 1 (.take 2 (.take 3 (.take 4 (.take 5 (.take 6 (.take 7 (.take 8 (.take 9 (.take 10 (.take 11 (.take 12 (.take 13 (.take 14 (.take 15 (.one 16 (.done))))))))))))))))) | 25 => .take 0 (.take 1 (.take 2 (.take 3 (.take 4 (.take 5 (.take 6 (.one 7 (.done)))))))) | _ => .done, fun n => match n with | 20 => [] | _ => []⟩ Try.func22 ent22 (by kernel_rfl) h

end Go.Proofs.Ytfekkdmnboccfaa
