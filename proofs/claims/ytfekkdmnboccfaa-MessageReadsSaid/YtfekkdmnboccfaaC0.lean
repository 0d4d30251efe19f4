/- The conditions of functions, written out: printed by a small program (VCDev.lean, vcgen.sh).  Conditions: none. -/
import Derived.Test.YtfekkdmnboccfaaTab
namespace Go.Proofs.Ytfekkdmnboccfaa
set_option linter.unusedSimpArgs false
set_option linter.unusedVariables false
open Go VC
theorem vc21 (a : Addr) (b : Int) (c : Int) (w : World) (R : Value → World → Prop)
  (h : allocC w (Obj.cells #[Value.pointer (some a)] (83 : Nat)) fun n0 w1 =>
  callV Try.prog (39 : Nat) [Value.int IntKind.i64 c] w1 fun v2 w3 =>
    isK IntKind.i64 v2 fun i4 =>
      callV Try.prog (38 : Nat) [Value.int IntKind.u64 b, Value.int IntKind.i64 i4] w3 fun v5 w6 =>
        isFn v5 fun f7 l8 l9 =>
          rd (gd (List.isEmpty l8 && true)) fun _x =>
            rd (fnId f7) fun n10 =>
              rangeC Try.prog n10 l9 (1 : Nat) w6
                (fun u11 w12 u13 =>
                  cutC
                    (fun u14 =>
                      rd (World.cell? w12 { block := n0, off := (0 : Nat) : Addr }) fun v15 =>
                        isP v15 fun o16 =>
                          rd (nilChk (Value.pointer o16)) fun v17 =>
                            isPtr v17 fun a18 =>
                              rd (World.cell? w12 (Addr.add a18 (1 : Nat))) fun v19 =>
                                isK IntKind.i64 v19 fun i20 =>
                                  br (decide (Int.tmod i20 (8 : Int) = (0 : Int)))
                                    (heldC (World.drew w12) fun u21 =>
                                      rd (World.cell? (World.drew w12) { block := n0, off := (0 : Nat) : Addr }) fun v22 =>
                                        (∀ (w23 : World), u21 w23 → rd (World.cell? w23 { block := n0, off := (0 : Nat) : Addr }) fun v25 => v25 = v22 ∧ w23 = w23) ∧
                                          isP v22 fun o26 =>
                                            rd (World.cell? (World.drew w12) { block := n0, off := (0 : Nat) : Addr }) fun v27 =>
                                              (∀ (w28 : World), u21 w28 → rd (World.cell? w28 { block := n0, off := (0 : Nat) : Addr }) fun v30 => v30 = v27 ∧ w28 = w28) ∧
                                                isP v27 fun o31 =>
                                                  rd (nilChk (Value.pointer o31)) fun v32 =>
                                                    (∀ (w33 : World), u21 w33 → rd (nilChk (Value.pointer o31)) fun v35 => v35 = v32 ∧ w33 = w33) ∧
                                                      isPtr v32 fun a36 =>
                                                        (∀ (w37 : World), u21 w37 → isPtr v32 fun a39 => Value.pointer (some a39) = Value.pointer (some a36) ∧ w37 = w37) ∧
                                                          (rd (World.cell? (World.drew w12) a36) fun v40 =>
                                                              isSl v40 fun o41 n42 n43 =>
                                                                u21 (World.drew w12) ∧
                                                                  runs Try.prog (Instr.buildSlice (25 : Nat) (1 : Nat) #[((0 : Nat), Value.int IntKind.u8 (0 : Int))])
                                                                    (World.drew w12) fun v44 w45 =>
                                                                    isSl v44 fun o46 n47 n48 =>
                                                                      u21 w45 ∧
                                                                        runs Try.prog
                                                                          (Builtin.append_ #[(25 : Nat), (25 : Nat)] (25 : Nat) #[Value.slice o41 n42 n43, Value.slice o46 n47 n48])
                                                                          w45 fun v49 w50 =>
                                                                          isSl v49 fun o51 n52 n53 =>
                                                                            u21 w50 ∧
                                                                              rd (nilChk (Value.pointer o26)) fun v54 =>
                                                                                (∀ (w55 : World), u21 w55 → rd (nilChk (Value.pointer o26)) fun v57 => v57 = v54 ∧ w55 = w55) ∧
                                                                                  isPtr v54 fun a58 =>
                                                                                    (∀ (w59 : World),
                                                                                        u21 w59 →
                                                                                          isPtr v54 fun a61 => Value.pointer (some a61) = Value.pointer (some a58) ∧ w59 = w59) ∧
                                                                                      stC w50 a58 [Value.slice o51 n52 n53] fun w62 => u21 w62 ∧ u14 (alist []) w62) ∧
                                                            runs Try.prog (Instr.buildSlice (25 : Nat) (1 : Nat) #[((0 : Nat), Value.int IntKind.u8 (0 : Int))]) (World.drew w12)
                                                              fun v63 w64 =>
                                                              isSl v63 fun o65 n66 n67 =>
                                                                u21 w64 ∧
                                                                  rd (World.cell? w64 a36) fun v68 =>
                                                                    isSl v68 fun o69 n70 n71 =>
                                                                      u21 w64 ∧
                                                                        runs Try.prog
                                                                          (Builtin.append_ #[(25 : Nat), (25 : Nat)] (25 : Nat) #[Value.slice o69 n70 n71, Value.slice o65 n66 n67])
                                                                          w64 fun v72 w73 =>
                                                                          isSl v72 fun o74 n75 n76 =>
                                                                            u21 w73 ∧
                                                                              rd (nilChk (Value.pointer o26)) fun v77 =>
                                                                                (∀ (w78 : World), u21 w78 → rd (nilChk (Value.pointer o26)) fun v80 => v80 = v77 ∧ w78 = w78) ∧
                                                                                  isPtr v77 fun a81 =>
                                                                                    (∀ (w82 : World),
                                                                                        u21 w82 →
                                                                                          isPtr v77 fun a84 => Value.pointer (some a84) = Value.pointer (some a81) ∧ w82 = w82) ∧
                                                                                      stC w73 a81 [Value.slice o74 n75 n76] fun w85 => u21 w85 ∧ u14 (alist []) w85)
                                    (u14 (alist []) w12))
                    fun u86 =>
                    ∀ (u87 : Nat → Value) (w88 : World),
                      u86 (alist []) w88 →
                        heldC (World.drew w88) fun u90 =>
                          rd (World.cell? (World.drew w88) { block := n0, off := (0 : Nat) : Addr }) fun v91 =>
                            (∀ (w92 : World), u90 w92 → rd (World.cell? w92 { block := n0, off := (0 : Nat) : Addr }) fun v94 => v94 = v91 ∧ w92 = w92) ∧
                              isP v91 fun o95 =>
                                rd (nilChk (Value.pointer o95)) fun v96 =>
                                  (∀ (w97 : World), u90 w97 → rd (nilChk (Value.pointer o95)) fun v99 => v99 = v96 ∧ w97 = w97) ∧
                                    isPtr v96 fun a100 =>
                                      (∀ (w101 : World), u90 w101 → isPtr v96 fun a103 => Value.pointer (some a103) = Value.pointer (some a100) ∧ w101 = w101) ∧
                                        rd (World.cell? (World.drew w88) a100) fun v104 =>
                                          (∀ (w105 : World), u90 w105 → rd (World.cell? w105 a100) fun v107 => v107 = v104 ∧ w105 = w105) ∧
                                            isSl v104 fun o108 n109 n110 =>
                                              rd (World.cell? (World.drew w88) { block := n0, off := (0 : Nat) : Addr }) fun v111 =>
                                                (∀ (w112 : World),
                                                    u90 w112 → rd (World.cell? w112 { block := n0, off := (0 : Nat) : Addr }) fun v114 => v114 = v111 ∧ w112 = w112) ∧
                                                  isP v111 fun o115 =>
                                                    rd (nilChk (Value.pointer o115)) fun v116 =>
                                                      (∀ (w117 : World), u90 w117 → rd (nilChk (Value.pointer o115)) fun v119 => v119 = v116 ∧ w117 = w117) ∧
                                                        isPtr v116 fun a120 =>
                                                          (∀ (w121 : World),
                                                              u90 w121 →
                                                                isPtr v116 fun a123 =>
                                                                  Value.pointer (some (Addr.add a123 (1 : Nat))) = Value.pointer (some (Addr.add a120 (1 : Nat))) ∧ w121 = w121) ∧
                                                            rd (World.cell? (World.drew w88) (Addr.add a120 (1 : Nat))) fun v124 =>
                                                              (∀ (w125 : World), u90 w125 → rd (World.cell? w125 (Addr.add a120 (1 : Nat))) fun v127 => v127 = v124 ∧ w125 = w125) ∧
                                                                isK IntKind.i64 v124 fun i128 =>
                                                                  (∀ (w129 : World),
                                                                      u90 w129 →
                                                                        Value.int IntKind.i64 (IntKind.wrap IntKind.i64 (Int.tdiv i128 (8 : Int))) =
                                                                            Value.int IntKind.i64 (IntKind.wrap IntKind.i64 (Int.tdiv i128 (8 : Int))) ∧
                                                                          w129 = w129) ∧
                                                                    rd o108 fun a131 =>
                                                                      ((0 : Int) ≤ IntKind.wrap IntKind.i64 (Int.tdiv i128 (8 : Int)) ∧
                                                                          IntKind.wrap IntKind.i64 (Int.tdiv i128 (8 : Int)) < (↑n109 : Int)) ∧
                                                                        (∀ (w132 : World),
                                                                            u90 w132 →
                                                                              rd o108 fun a134 =>
                                                                                ((0 : Int) ≤ IntKind.wrap IntKind.i64 (Int.tdiv i128 (8 : Int)) ∧
                                                                                    IntKind.wrap IntKind.i64 (Int.tdiv i128 (8 : Int)) < (↑n109 : Int)) ∧
                                                                                  Value.pointer
                                                                                        (some
                                                                                          (Addr.add a134
                                                                                            (Int.toNat (IntKind.wrap IntKind.i64 (Int.tdiv i128 (8 : Int))) * (1 : Nat)))) =
                                                                                      Value.pointer
                                                                                        (some
                                                                                          (Addr.add a131
                                                                                            (Int.toNat (IntKind.wrap IntKind.i64 (Int.tdiv i128 (8 : Int))) * (1 : Nat)))) ∧
                                                                                    w132 = w132) ∧
                                                                          (∀ (w135 : World), u90 w135 → u11 (0 : Nat) = u11 (0 : Nat) ∧ w135 = w135) ∧
                                                                            isK IntKind.u8 (u11 (0 : Nat)) fun i137 =>
                                                                              rd (World.cell? (World.drew w88) { block := n0, off := (0 : Nat) : Addr }) fun v138 =>
                                                                                (∀ (w139 : World),
                                                                                    u90 w139 →
                                                                                      rd (World.cell? w139 { block := n0, off := (0 : Nat) : Addr }) fun v141 =>
                                                                                        v141 = v138 ∧ w139 = w139) ∧
                                                                                  isP v138 fun o142 =>
                                                                                    rd (nilChk (Value.pointer o142)) fun v143 =>
                                                                                      (∀ (w144 : World),
                                                                                          u90 w144 → rd (nilChk (Value.pointer o142)) fun v146 => v146 = v143 ∧ w144 = w144) ∧
                                                                                        isPtr v143 fun a147 =>
                                                                                          (∀ (w148 : World),
                                                                                              u90 w148 →
                                                                                                isPtr v143 fun a150 =>
                                                                                                  Value.pointer (some (Addr.add a150 (1 : Nat))) =
                                                                                                      Value.pointer (some (Addr.add a147 (1 : Nat))) ∧
                                                                                                    w148 = w148) ∧
                                                                                            rd (World.cell? (World.drew w88) (Addr.add a147 (1 : Nat))) fun v151 =>
                                                                                              (∀ (w152 : World),
                                                                                                  u90 w152 →
                                                                                                    rd (World.cell? w152 (Addr.add a147 (1 : Nat))) fun v154 =>
                                                                                                      v154 = v151 ∧ w152 = w152) ∧
                                                                                                isK IntKind.i64 v151 fun i155 =>
                                                                                                  (∀ (w156 : World),
                                                                                                      u90 w156 →
                                                                                                        Value.int IntKind.i64 (Int.tmod i155 (8 : Int)) =
                                                                                                            Value.int IntKind.i64 (Int.tmod i155 (8 : Int)) ∧
                                                                                                          w156 = w156) ∧
                                                                                                    (∀ (w158 : World),
                                                                                                        u90 w158 →
                                                                                                          Value.int IntKind.i64
                                                                                                                (IntKind.wrap IntKind.i64 ((7 : Int) - Int.tmod i155 (8 : Int))) =
                                                                                                              Value.int IntKind.i64
                                                                                                                (IntKind.wrap IntKind.i64 ((7 : Int) - Int.tmod i155 (8 : Int))) ∧
                                                                                                            w158 = w158) ∧
                                                                                                      rd
                                                                                                        (orO
                                                                                                          (binV BinOp.shl (Value.int IntKind.u8 i137)
                                                                                                            (Value.int IntKind.i64
                                                                                                              (IntKind.wrap IntKind.i64 ((7 : Int) - Int.tmod i155 (8 : Int)))))
                                                                                                          none)
                                                                                                        fun v160 =>
                                                                                                        (∀ (w161 : World),
                                                                                                            u90 w161 →
                                                                                                              rd
                                                                                                                (orO
                                                                                                                  (binV BinOp.shl (Value.int IntKind.u8 i137)
                                                                                                                    (Value.int IntKind.i64
                                                                                                                      (IntKind.wrap IntKind.i64
                                                                                                                        ((7 : Int) - Int.tmod i155 (8 : Int)))))
                                                                                                                  none)
                                                                                                                fun v163 => v163 = v160 ∧ w161 = w161) ∧
                                                                                                          isK IntKind.u8 v160 fun i164 =>
                                                                                                            rd
                                                                                                              (World.cell? (World.drew w88)
                                                                                                                (Addr.add a131
                                                                                                                  (Int.toNat (IntKind.wrap IntKind.i64 (Int.tdiv i128 (8 : Int))) *
                                                                                                                    (1 : Nat))))
                                                                                                              fun v165 =>
                                                                                                              isK IntKind.u8 v165 fun i166 =>
                                                                                                                u90 (World.drew w88) ∧
                                                                                                                  (∀ (w167 : World),
                                                                                                                      u90 w167 →
                                                                                                                        Value.int IntKind.u8 (orI IntKind.u8 i166 i164) =
                                                                                                                            Value.int IntKind.u8 (orI IntKind.u8 i166 i164) ∧
                                                                                                                          w167 = w167) ∧
                                                                                                                    rd o108 fun a169 =>
                                                                                                                      ((0 : Int) ≤
                                                                                                                            IntKind.wrap IntKind.i64 (Int.tdiv i128 (8 : Int)) ∧
                                                                                                                          IntKind.wrap IntKind.i64 (Int.tdiv i128 (8 : Int)) <
                                                                                                                            (↑n109 : Int)) ∧
                                                                                                                        (∀ (w170 : World),
                                                                                                                            u90 w170 →
                                                                                                                              rd o108 fun a172 =>
                                                                                                                                ((0 : Int) ≤
                                                                                                                                      IntKind.wrap IntKind.i64
                                                                                                                                        (Int.tdiv i128 (8 : Int)) ∧
                                                                                                                                    IntKind.wrap IntKind.i64
                                                                                                                                        (Int.tdiv i128 (8 : Int)) <
                                                                                                                                      (↑n109 : Int)) ∧
                                                                                                                                  Value.pointer
                                                                                                                                        (some
                                                                                                                                          (Addr.add a172
                                                                                                                                            (Int.toNat
                                                                                                                                                (IntKind.wrap IntKind.i64
                                                                                                                                                  (Int.tdiv i128 (8 : Int))) *
                                                                                                                                              (1 : Nat)))) =
                                                                                                                                      Value.pointer
                                                                                                                                        (some
                                                                                                                                          (Addr.add a169
                                                                                                                                            (Int.toNat
                                                                                                                                                (IntKind.wrap IntKind.i64
                                                                                                                                                  (Int.tdiv i128 (8 : Int))) *
                                                                                                                                              (1 : Nat)))) ∧
                                                                                                                                    w170 = w170) ∧
                                                                                                                          stC (World.drew w88)
                                                                                                                            (Addr.add a169
                                                                                                                              (Int.toNat
                                                                                                                                  (IntKind.wrap IntKind.i64
                                                                                                                                    (Int.tdiv i128 (8 : Int))) *
                                                                                                                                (1 : Nat)))
                                                                                                                            [Value.int IntKind.u8 (orI IntKind.u8 i166 i164)]
                                                                                                                            fun w173 =>
                                                                                                                            u90 w173 ∧
                                                                                                                              rd
                                                                                                                                (World.cell? w173
                                                                                                                                  { block := n0, off := (0 : Nat) : Addr })
                                                                                                                                fun v174 =>
                                                                                                                                isP v174 fun o175 =>
                                                                                                                                  rd (nilChk (Value.pointer o175)) fun v176 =>
                                                                                                                                    isPtr v176 fun a177 =>
                                                                                                                                      rd
                                                                                                                                        (World.cell? w173 (Addr.add a177 (1 : Nat)))
                                                                                                                                        fun v178 =>
                                                                                                                                        isK IntKind.i64 v178 fun i179 =>
                                                                                                                                          rd (nilChk (Value.pointer o175))
                                                                                                                                            fun v180 =>
                                                                                                                                            isPtr v180 fun a181 =>
                                                                                                                                              stC w173 (Addr.add a181 (1 : Nat))
                                                                                                                                                [Value.int IntKind.i64
                                                                                                                                                    (IntKind.wrap IntKind.i64
                                                                                                                                                      (i179 + (1 : Int)))]
                                                                                                                                                fun w182 => u13 Exit.normal w182)
                (fun n183 w184 => leaveC (Value.tuple #[Value.pointer (some { block := n183, off := (0 : Nat) : Addr })]) w184 fun w185 => R (Value.tuple #[]) w185)
                (fun n186 w187 => leaveC (Value.tuple #[Value.pointer (some { block := n186, off := (0 : Nat) : Addr })]) w187 fun w188 => R (Value.tuple #[]) w188) []) :
  callV Try.prog 21 [Value.pointer (some a), Value.int IntKind.u64 b, Value.int IntKind.i64 c] w R :=
  vc_of hm ⟨fun n => match n with | 5 => true | _ => false, fun n => match n with | 4 => .take 0 (.take 1 (.take 2 (.take 3 (.two 4 (.one 5 (.one 6 (.take 7 (.take 8 (.one 9 (.done)))))) 5 (.one 4 (.one 6 (.take 7 (.take 8 (.one 9 (.done)))))))))) | 5 => .take 0 (.take 1 (.take 2 (.take 3 (.take 4 (.take 5 (.take 6 (.take 7 (.take 8 (.take 9 (.take 11 (.take 12 (.take 13 (.take 14 (.take 15 (.take 16 (.take 17 (.take 18 (.one 10 (.take 19 (.take 20 (.one 21 (.done)))))))))))))))))))))) | _ => .done, fun n => match n with | 5 => [] | _ => []⟩ Try.func21 ent21 (by kernel_rfl) h

theorem vc23 (a : Addr) (w : World) (R : Value → World → Prop)
  (h : rd (World.cell? w a) fun v0 => isSl v0 fun o1 n2 n3 => callV Try.prog (46 : Nat) [Value.slice o1 n2 n3] w fun v4 w5 => isSl v4 fun o6 n7 n8 => R (Value.slice o6 n7 n8) w5) :
  callV Try.prog 23 [Value.pointer (some a)] w R :=
  vc_of hm noHints Try.func23 ent23 (by kernel_rfl) h

theorem vc25 (ap : Option Addr) (an : Nat) (ac : Nat) (w : World) (R : Value → World → Prop)
  (h : callV Try.prog (46 : Nat) [Value.slice ap an ac] w fun v0 w1 =>
  isSl v0 fun o2 n3 n4 =>
    allocC w1 (Obj.cells #[Value.slice o2 n3 n4, Value.int IntKind.i64 (0 : Int)] (106 : Nat)) fun n5 w6 => R (Value.pointer (some { block := n5, off := (0 : Nat) : Addr })) w6) :
  callV Try.prog 25 [Value.slice ap an ac] w R :=
  vc_of hm noHints Try.func25 ent25 (by kernel_rfl) h

theorem vc30 (a : Value) (b : Addr) (c : Int) (w : World) (R : Value → World → Prop)
  (h : rd (World.cell? w b) fun v0 =>
  isK IntKind.i64 v0 fun i1 =>
    allocC w (Obj.cells #[Value.int IntKind.u64 (0 : Int)] (60 : Nat)) fun n2 w3 =>
      stC w3 { block := n2, off := (0 : Nat) : Addr } [Value.int IntKind.u64 (IntKind.wrap IntKind.u64 i1)] fun w4 =>
        isIf a fun n5 v6 =>
          methV Try.prog n5 v6 "embrasure/message.whole" w4 fun n7 v8 =>
            callV Try.prog n7 [v8, Value.pointer (some { block := n2, off := (0 : Nat) : Addr }), Value.int IntKind.i64 c] w4 fun v9 w10 =>
              rd (World.cell? w10 { block := n2, off := (0 : Nat) : Addr }) fun v11 =>
                isK IntKind.u64 v11 fun i12 => stC w10 b [Value.int IntKind.i64 (IntKind.wrap IntKind.i64 i12)] fun w13 => R (Value.tuple #[]) w13) :
  callV Try.prog 30 [a, Value.pointer (some b), Value.int IntKind.i64 c] w R :=
  vc_of hm noHints Try.func30 ent30 (by kernel_rfl) h

theorem vc31 (a : Addr) (b : Bool) (w : World) (R : Value → World → Prop)
  (h : callV Try.prog (51 : Nat) [Value.pointer (some a), Value.bool b, Value.int IntKind.i64 (3 : Int)] w fun v0 w1 => R (Value.tuple #[]) w1) :
  callV Try.prog 31 [Value.pointer (some a), Value.bool b] w R :=
  vc_of hm noHints Try.func31 ent31 (by kernel_rfl) h

theorem vc32 (a : Addr) (w : World) (R : Value → World → Prop)
  (h : rd (World.cell? w (Addr.add a (1 : Nat))) fun v0 =>
  isK IntKind.i64 v0 fun i1 =>
    loopC (alist [((3 : Nat), Value.int IntKind.i64 i1)]) w fun u2 u3 =>
      ∀ (u4 : Nat → Value) (w5 : World),
        u2 (alist [((3 : Nat), u4 (3 : Nat))]) w5 →
          isK IntKind.i64 (u4 (3 : Nat)) fun i7 =>
            rd (World.cell? w5 a) fun v8 =>
              isSl v8 fun o9 n10 n11 =>
                br (decide (i7 < IntKind.wrap IntKind.i64 ((↑n10 : Int) * (8 : Int))))
                  (isK IntKind.i64 (u4 (3 : Nat)) fun i12 =>
                    callV Try.prog (52 : Nat) [Value.pointer (some a), Value.int IntKind.i64 i12] w5 fun v13 w14 =>
                      isK IntKind.u64 v13 fun i15 =>
                        br (!decide (i15 = (0 : Int))) (R (Value.bool false) w14)
                          (isK IntKind.i64 (u4 (3 : Nat)) fun i16 =>
                            again u2 u3 (alist [((3 : Nat), Value.int IntKind.i64 (IntKind.wrap IntKind.i64 (i16 + (1 : Int))))]) w14 (alist [((3 : Nat), u4 (3 : Nat))]) w5))
                  (callV Try.prog (53 : Nat) [Value.pointer (some a)] w5 fun v17 w18 => isK IntKind.i64 v17 fun i19 => R (Value.bool (decide (i19 < (8 : Int)))) w18)) :
  callV Try.prog 32 [Value.pointer (some a)] w R :=
  vc_of hm ⟨fun _ => false, fun _ => .done, fun n => match n with | 2 => [3] | _ => []⟩ Try.func32 ent32 (by kernel_rfl) h

theorem vc38 (a : Int) (b : Int) (w : World) (R : Value → World → Prop)
  (h : allocC w (Obj.cells #[Value.int IntKind.u64 a] (60 : Nat)) fun n0 w1 =>
  allocC w1 (Obj.cells #[Value.int IntKind.i64 b] (3 : Nat)) fun n2 w3 =>
    R (Value.func (Fn.func (59 : Nat)) #[] #[Value.pointer (some { block := n2, off := (0 : Nat) : Addr }), Value.pointer (some { block := n0, off := (0 : Nat) : Addr })]) w3) :
  callV Try.prog 38 [Value.int IntKind.u64 a, Value.int IntKind.i64 b] w R :=
  vc_of hm noHints Try.func38 ent38 (by kernel_rfl) h

theorem vc39 (a : Int) (w : World) (R : Value → World → Prop)
  (h : R (Value.int IntKind.i64 (max (0 : Int) (min a (64 : Int)))) w) :
  callV Try.prog 39 [Value.int IntKind.i64 a] w R :=
  vc_of hm noHints Try.func39 ent39 (by kernel_rfl) h

theorem vc41 (a : Value) (b : Addr) (c : Int) (w : World) (R : Value → World → Prop)
  (h : rd (World.cell? w b) fun v0 =>
  isK IntKind.u16 v0 fun i1 =>
    allocC w (Obj.cells #[Value.int IntKind.u64 (0 : Int)] (60 : Nat)) fun n2 w3 =>
      stC w3 { block := n2, off := (0 : Nat) : Addr } [Value.int IntKind.u64 (IntKind.wrap IntKind.u64 i1)] fun w4 =>
        isIf a fun n5 v6 =>
          methV Try.prog n5 v6 "embrasure/message.whole" w4 fun n7 v8 =>
            callV Try.prog n7 [v8, Value.pointer (some { block := n2, off := (0 : Nat) : Addr }), Value.int IntKind.i64 c] w4 fun v9 w10 =>
              rd (World.cell? w10 { block := n2, off := (0 : Nat) : Addr }) fun v11 =>
                isK IntKind.u64 v11 fun i12 => stC w10 b [Value.int IntKind.u16 (IntKind.wrap IntKind.u16 i12)] fun w13 => R (Value.tuple #[]) w13) :
  callV Try.prog 41 [a, Value.pointer (some b), Value.int IntKind.i64 c] w R :=
  vc_of hm noHints Try.func41 ent41 (by kernel_rfl) h

theorem vc43 (a : Value) (b : Addr) (w : World) (R : Value → World → Prop)
  (h : callV Try.prog (30 : Nat) [a, Value.pointer (some b), Value.int IntKind.i64 (31 : Int)] w fun v0 w1 =>
  heldC (World.drew w1) fun u2 =>
    (∀ (w3 : World), u2 w3 → a = a ∧ w3 = w3) ∧
      (∀ (w5 : World), u2 w5 → Value.pointer (some b) = Value.pointer (some b) ∧ w5 = w5) ∧
        (∀ (w7 : World), u2 w7 → Value.pointer (some b) = Value.pointer (some b) ∧ w7 = w7) ∧
          rd (World.cell? (World.drew w1) b) fun v9 =>
            (∀ (w10 : World), u2 w10 → rd (World.cell? w10 b) fun v12 => v12 = v9 ∧ w10 = w10) ∧
              isK IntKind.i64 v9 fun i13 =>
                (∀ (w14 : World), u2 w14 → Value.bool (decide ((0 : Int) < i13)) = Value.bool (decide ((0 : Int) < i13)) ∧ w14 = w14) ∧
                  (∀ (w16 : World), u2 w16 → Value.func (Fn.method "embrasure/message.within") #[a] #[] = Value.func (Fn.method "embrasure/message.within") #[a] #[] ∧ w16 = w16) ∧
                    isIf a fun n18 v19 =>
                      nilA Try.prog n18 v19 "embrasure/message.within" (World.drew w1)
                        ((∀ (w20 : World),
                            u2 w20 →
                              isIf a fun n22 v23 =>
                                nilA Try.prog n22 v23 "embrasure/message.within" w20
                                  (Value.func (Fn.method "embrasure/message.within") #[a] #[] = Value.func (Fn.method "embrasure/message.within") #[a] #[] ∧ w20 = w20)) ∧
                          (∀ (w24 : World), u2 w24 → a = a ∧ w24 = w24) ∧
                            isIf a fun n26 v27 =>
                              methV Try.prog n26 v27 "embrasure/message.within" (World.drew w1) fun n28 v29 =>
                                callV Try.prog n28 [v29, Value.bool (decide ((0 : Int) < i13))] (World.drew w1) fun v30 w31 => u2 w31 ∧ R (Value.tuple #[]) w31)) :
  callV Try.prog 43 [a, Value.pointer (some b)] w R :=
  vc_of hm ⟨fun _ => false, fun n => match n with | 1 => .take 0 (.take 1 (.take 2 (.take 3 (.take 4 (.take 5 (.take 6 (.take 7 (.one 8 (.done))))))))) | _ => .done, fun _ => []⟩ Try.func43 ent43 (by kernel_rfl) h

theorem vc44 (a : Value) (b : Addr) (c : Int) (w : World) (R : Value → World → Prop)
  (h : rd (World.cell? w b) fun v0 =>
  isK IntKind.i64 v0 fun i1 =>
    allocC w (Obj.cells #[Value.int IntKind.u64 (0 : Int)] (60 : Nat)) fun n2 w3 =>
      stC w3 { block := n2, off := (0 : Nat) : Addr } [Value.int IntKind.u64 (IntKind.wrap IntKind.u64 i1)] fun w4 =>
        isIf a fun n5 v6 =>
          methV Try.prog n5 v6 "embrasure/message.whole" w4 fun n7 v8 =>
            callV Try.prog n7 [v8, Value.pointer (some { block := n2, off := (0 : Nat) : Addr }), Value.int IntKind.i64 c] w4 fun v9 w10 =>
              rd (World.cell? w10 { block := n2, off := (0 : Nat) : Addr }) fun v11 =>
                isK IntKind.u64 v11 fun i12 => stC w10 b [Value.int IntKind.i64 (IntKind.wrap IntKind.i64 i12)] fun w13 => R (Value.tuple #[]) w13) :
  callV Try.prog 44 [a, Value.pointer (some b), Value.int IntKind.i64 c] w R :=
  vc_of hm noHints Try.func44 ent44 (by kernel_rfl) h

theorem vc45 (a : Value) (b : Addr) (c : Int) (w : World) (R : Value → World → Prop)
  (h : rd (World.cell? w b) fun v0 =>
  isK IntKind.u32 v0 fun i1 =>
    allocC w (Obj.cells #[Value.int IntKind.u64 (0 : Int)] (60 : Nat)) fun n2 w3 =>
      stC w3 { block := n2, off := (0 : Nat) : Addr } [Value.int IntKind.u64 (IntKind.wrap IntKind.u64 i1)] fun w4 =>
        isIf a fun n5 v6 =>
          methV Try.prog n5 v6 "embrasure/message.whole" w4 fun n7 v8 =>
            callV Try.prog n7 [v8, Value.pointer (some { block := n2, off := (0 : Nat) : Addr }), Value.int IntKind.i64 c] w4 fun v9 w10 =>
              rd (World.cell? w10 { block := n2, off := (0 : Nat) : Addr }) fun v11 =>
                isK IntKind.u64 v11 fun i12 => stC w10 b [Value.int IntKind.u32 (IntKind.wrap IntKind.u32 i12)] fun w13 => R (Value.tuple #[]) w13) :
  callV Try.prog 45 [a, Value.pointer (some b), Value.int IntKind.i64 c] w R :=
  vc_of hm noHints Try.func45 ent45 (by kernel_rfl) h

theorem vc46 (ap : Option Addr) (an : Nat) (ac : Nat) (w : World) (R : Value → World → Prop)
  (h : br (Option.isNone ap) (R (Value.slice none (0 : Nat) (0 : Nat)) w)
  (runs Try.prog (Instr.buildSlice (25 : Nat) (0 : Nat) #[]) w fun v0 w1 =>
    isSl v0 fun o2 n3 n4 =>
      runs Try.prog (Builtin.append_ #[(25 : Nat), (25 : Nat)] (25 : Nat) #[Value.slice o2 n3 n4, Value.slice ap an ac]) w1 fun v5 w6 =>
        isSl v5 fun o7 n8 n9 => R (Value.slice o7 n8 n9) w6)) :
  callV Try.prog 46 [Value.slice ap an ac] w R :=
  vc_of hm noHints Try.func46 ent46 (by kernel_rfl) h

theorem vc50 (ap : Option Addr) (an : Nat) (ac : Nat) (bp : Option Addr) (bn : Nat) (bc : Nat) (w : World) (R : Value → World → Prop)
  (h : br (!decide ((↑an : Int) = (↑bn : Int))) (R (Value.bool false) w)
  (loopC (alist [((13 : Nat), Value.int IntKind.i64 (0 : Int))]) w fun u0 u1 =>
    ∀ (u2 : Nat → Value) (w3 : World),
      u0 (alist [((13 : Nat), u2 (13 : Nat))]) w3 →
        rd (orO (binV BinOp.lss (u2 (13 : Nat)) (Value.int IntKind.i64 (↑an : Int))) none) fun v5 =>
          isB v5 fun t6 =>
            br t6
              (isK IntKind.i64 (u2 (13 : Nat)) fun i7 =>
                rd ap fun a8 =>
                  ((0 : Int) ≤ i7 ∧ i7 < (↑an : Int)) ∧
                    rd (World.cell? (World.drew w3) (Addr.add a8 (Int.toNat i7 * (1 : Nat)))) fun v9 =>
                      isK IntKind.u8 v9 fun i10 =>
                        rd bp fun a11 =>
                          ((0 : Int) ≤ i7 ∧ i7 < (↑bn : Int)) ∧
                            rd (World.cell? (World.drew w3) (Addr.add a11 (Int.toNat i7 * (1 : Nat)))) fun v12 =>
                              isK IntKind.u8 v12 fun i13 =>
                                br (!decide (i10 = i13)) (R (Value.bool false) (World.drew w3))
                                  (rd (orO (binV BinOp.add (u2 (13 : Nat)) (Value.int IntKind.i64 (1 : Int))) none) fun v14 =>
                                    isK IntKind.i64 v14 fun i15 =>
                                      again u0 u1 (alist [((13 : Nat), Value.int IntKind.i64 i15)]) (World.drew w3) (alist [((13 : Nat), u2 (13 : Nat))]) w3))
              (R (Value.bool true) w3))) :
  callV Try.prog 50 [Value.slice ap an ac, Value.slice bp bn bc] w R :=
  vc_of hm ⟨fun _ => false, fun n => match n with | 6 => .take 0 (.take 1 (.take 2 (.take 3 (.take 4 (.take 5 (.take 6 (.take 7 (.take 8 (.done))))))))) | _ => .done, fun n => match n with | 4 => [13] | _ => []⟩ Try.func50 ent50 (by kernel_rfl) h

theorem vc51 (a : Addr) (b : Bool) (c : Int) (w : World) (R : Value → World → Prop)
  (h : br (!b)
  (rd (World.cell? w (Addr.add a (1 : Nat))) fun v0 =>
    isK IntKind.i64 v0 fun i1 => br (decide (i1 = (0 : Int))) (stC w (Addr.add a (1 : Nat)) [Value.int IntKind.i64 c] fun w2 => R (Value.tuple #[]) w2) (R (Value.tuple #[]) w))
  (R (Value.tuple #[]) w)) :
  callV Try.prog 51 [Value.pointer (some a), Value.bool b, Value.int IntKind.i64 c] w R :=
  vc_of hm noHints Try.func51 ent51 (by kernel_rfl) h

theorem vc52 (a : Addr) (b : Int) (w : World) (R : Value → World → Prop)
  (h : rd (World.cell? w a) fun v0 =>
  isSl v0 fun o1 n2 n3 =>
    rd o1 fun a4 =>
      ((0 : Int) ≤ IntKind.wrap IntKind.i64 (Int.tdiv b (8 : Int)) ∧ IntKind.wrap IntKind.i64 (Int.tdiv b (8 : Int)) < (↑n2 : Int)) ∧
        rd (World.cell? w (Addr.add a4 (Int.toNat (IntKind.wrap IntKind.i64 (Int.tdiv b (8 : Int))) * (1 : Nat)))) fun v5 =>
          isK IntKind.u8 v5 fun i6 =>
            rd (orO (binV BinOp.shr (Value.int IntKind.u8 i6) (Value.int IntKind.i64 (IntKind.wrap IntKind.i64 ((7 : Int) - Int.tmod b (8 : Int))))) none) fun v7 =>
              isK IntKind.u8 v7 fun i8 => R (Value.int IntKind.u64 (IntKind.wrap IntKind.u64 (andI IntKind.u8 i8 (1 : Int)))) w) :
  callV Try.prog 52 [Value.pointer (some a), Value.int IntKind.i64 b] w R :=
  vc_of hm noHints Try.func52 ent52 (by kernel_rfl) h

theorem vc53 (a : Addr) (w : World) (R : Value → World → Prop)
  (h : rd (World.cell? (World.drew w) a) fun v0 =>
  isSl v0 fun o1 n2 n3 =>
    rd (World.cell? (World.drew w) (Addr.add a (1 : Nat))) fun v4 =>
      isK IntKind.i64 v4 fun i5 => R (Value.int IntKind.i64 (IntKind.wrap IntKind.i64 (IntKind.wrap IntKind.i64 ((↑n2 : Int) * (8 : Int)) - i5))) (World.drew w)) :
  callV Try.prog 53 [Value.pointer (some a)] w R :=
  vc_of hm ⟨fun _ => false, fun n => match n with | 1 => .take 0 (.take 1 (.take 2 (.take 3 (.take 4 (.take 5 (.take 6 (.take 7 (.take 8 (.take 9 (.take 10 (.take 11 (.done)))))))))))) | _ => .done, fun _ => []⟩ Try.func53 ent53 (by kernel_rfl) h

theorem vc59 (a : Value) (c0 : Addr) (c1 : Addr) (w : World) (R : Value → World → Prop)
  (h : rd (World.cell? w c0) fun v0 =>
  isK IntKind.i64 v0 fun i1 =>
    loopC (alist [((4 : Nat), Value.int IntKind.i64 (IntKind.wrap IntKind.i64 (i1 - (1 : Int))))]) w fun u2 u3 =>
      ∀ (u4 : Nat → Value) (w5 : World),
        u2 (alist [((4 : Nat), u4 (4 : Nat))]) w5 →
          isK IntKind.i64 (u4 (4 : Nat)) fun i7 =>
            br (decide ((0 : Int) ≤ i7))
              (rd (World.cell? w5 c1) fun v8 =>
                isK IntKind.u64 v8 fun i9 =>
                  isK IntKind.i64 (u4 (4 : Nat)) fun i10 =>
                    rd (orO (binV BinOp.shr (Value.int IntKind.u64 i9) (Value.int IntKind.i64 i10)) none) fun v11 =>
                      isK IntKind.u64 v11 fun i12 =>
                        isFn a fun f13 l14 l15 =>
                          callF Try.prog f13 (l14 ++ [Value.int IntKind.u8 (IntKind.wrap IntKind.u8 (andI IntKind.u64 i12 (1 : Int)))]) l15 w5 fun v16 w17 =>
                            isB v16 fun t18 =>
                              br (!t18) (R (Value.tuple #[]) w17)
                                (isK IntKind.i64 (u4 (4 : Nat)) fun i19 =>
                                  again u2 u3 (alist [((4 : Nat), Value.int IntKind.i64 (IntKind.wrap IntKind.i64 (i19 - (1 : Int))))]) w17 (alist [((4 : Nat), u4 (4 : Nat))]) w5))
              (R (Value.tuple #[]) w5)) :
  callV Try.prog 59 [a, Value.pointer (some c0), Value.pointer (some c1)] w R :=
  vc_of hm ⟨fun _ => false, fun _ => .done, fun n => match n with | 1 => [4] | _ => []⟩ Try.func59 ent59 (by kernel_rfl) h

theorem vc60 (a : Value) (b : Addr) (c : Int) (w : World) (R : Value → World → Prop)
  (h : rd (World.cell? w b) fun v0 =>
  isK IntKind.u8 v0 fun i1 =>
    allocC w (Obj.cells #[Value.int IntKind.u64 (0 : Int)] (60 : Nat)) fun n2 w3 =>
      stC w3 { block := n2, off := (0 : Nat) : Addr } [Value.int IntKind.u64 (IntKind.wrap IntKind.u64 i1)] fun w4 =>
        isIf a fun n5 v6 =>
          methV Try.prog n5 v6 "embrasure/message.whole" w4 fun n7 v8 =>
            callV Try.prog n7 [v8, Value.pointer (some { block := n2, off := (0 : Nat) : Addr }), Value.int IntKind.i64 c] w4 fun v9 w10 =>
              rd (World.cell? w10 { block := n2, off := (0 : Nat) : Addr }) fun v11 =>
                isK IntKind.u64 v11 fun i12 => stC w10 b [Value.int IntKind.u8 (IntKind.wrap IntKind.u8 i12)] fun w13 => R (Value.tuple #[]) w13) :
  callV Try.prog 60 [a, Value.pointer (some b), Value.int IntKind.i64 c] w R :=
  vc_of hm noHints Try.func60 ent60 (by kernel_rfl) h

theorem vc80 (a : Addr) (b : Addr) (c : Int) (w : World) (R : Value → World → Prop)
  (h : rd (World.cell? w b) fun v0 =>
  isSl v0 fun o1 n2 n3 =>
    allocC w (Obj.cells #[Value.int IntKind.u64 (0 : Int)] (60 : Nat)) fun n4 w5 =>
      stC w5 { block := n4, off := (0 : Nat) : Addr } [Value.int IntKind.u64 (IntKind.wrap IntKind.u64 (↑n2 : Int))] fun w6 =>
        callV Try.prog (82 : Nat) [Value.pointer (some a), Value.pointer (some { block := n4, off := (0 : Nat) : Addr }), Value.int IntKind.i64 c] w6 fun v7 w8 =>
          rd (World.cell? w8 b) fun v9 =>
            isSl v9 fun o10 n11 n12 =>
              loopC (alist [((21 : Nat), Value.int IntKind.i64 (0 : Int))]) w8 fun u13 u14 =>
                ∀ (u15 : Nat → Value) (w16 : World),
                  u13 (alist [((21 : Nat), u15 (21 : Nat))]) w16 →
                    rd (orO (binV BinOp.lss (u15 (21 : Nat)) (Value.int IntKind.i64 (↑n11 : Int))) none) fun v18 =>
                      isB v18 fun t19 =>
                        br t19
                          (isInt (u15 (21 : Nat)) fun k20 i21 =>
                            rd o10 fun a22 =>
                              ((0 : Int) ≤ i21 ∧ i21 < (↑n11 : Int)) ∧
                                rd (World.cell? w16 (Addr.add a22 (Int.toNat i21 * (1 : Nat)))) fun v23 =>
                                  isK IntKind.u8 v23 fun i24 =>
                                    callV Try.prog (21 : Nat) [Value.pointer (some a), Value.int IntKind.u64 (IntKind.wrap IntKind.u64 i24), Value.int IntKind.i64 (8 : Int)] w16
                                      fun v25 w26 =>
                                      rd (orO (binV BinOp.add (u15 (21 : Nat)) (Value.int IntKind.i64 (1 : Int))) none) fun v27 =>
                                        isK IntKind.i64 v27 fun i28 =>
                                          again u13 u14 (alist [((21 : Nat), Value.int IntKind.i64 i28)]) w26 (alist [((21 : Nat), u15 (21 : Nat))]) w16)
                          (R (Value.tuple #[]) w16)) :
  callV Try.prog 80 [Value.pointer (some a), Value.pointer (some b), Value.int IntKind.i64 c] w R :=
  vc_of hm ⟨fun _ => false, fun _ => .done, fun n => match n with | 3 => [21] | _ => []⟩ Try.func80 ent80 (by kernel_rfl) h

theorem vc81 (a : Addr) (b : Addr) (c : Int) (w : World) (R : Value → World → Prop)
  (h : heldC (World.drew w) fun u0 =>
  (∀ (w1 : World), u0 w1 → Value.pointer (some a) = Value.pointer (some a) ∧ w1 = w1) ∧
    (∀ (w3 : World), u0 w3 → Value.pointer (some b) = Value.pointer (some b) ∧ w3 = w3) ∧
      (∀ (w5 : World), u0 w5 → Value.pointer (some b) = Value.pointer (some b) ∧ w5 = w5) ∧
        rd (World.cell? (World.drew w) b) fun v7 =>
          (∀ (w8 : World), u0 w8 → rd (World.cell? w8 b) fun v10 => v10 = v7 ∧ w8 = w8) ∧
            isK IntKind.i64 v7 fun i11 =>
              (∀ (w12 : World), u0 w12 → Value.int IntKind.i64 c = Value.int IntKind.i64 c ∧ w12 = w12) ∧
                (∀ (w14 : World),
                    u0 w14 → Value.int IntKind.i64 (IntKind.wrap IntKind.i64 ((64 : Int) - c)) = Value.int IntKind.i64 (IntKind.wrap IntKind.i64 ((64 : Int) - c)) ∧ w14 = w14) ∧
                  rd (orO (binV BinOp.shl (Value.int IntKind.i64 i11) (Value.int IntKind.i64 (IntKind.wrap IntKind.i64 ((64 : Int) - c)))) none) fun v16 =>
                    (∀ (w17 : World),
                        u0 w17 →
                          rd (orO (binV BinOp.shl (Value.int IntKind.i64 i11) (Value.int IntKind.i64 (IntKind.wrap IntKind.i64 ((64 : Int) - c)))) none) fun v19 =>
                            v19 = v16 ∧ w17 = w17) ∧
                      isK IntKind.i64 v16 fun i20 =>
                        (∀ (w21 : World), u0 w21 → Value.int IntKind.i64 c = Value.int IntKind.i64 c ∧ w21 = w21) ∧
                          (∀ (w23 : World),
                              u0 w23 →
                                Value.int IntKind.i64 (IntKind.wrap IntKind.i64 ((64 : Int) - c)) = Value.int IntKind.i64 (IntKind.wrap IntKind.i64 ((64 : Int) - c)) ∧ w23 = w23) ∧
                            rd (orO (binV BinOp.shr (Value.int IntKind.i64 i20) (Value.int IntKind.i64 (IntKind.wrap IntKind.i64 ((64 : Int) - c)))) none) fun v25 =>
                              (∀ (w26 : World),
                                  u0 w26 →
                                    rd (orO (binV BinOp.shr (Value.int IntKind.i64 i20) (Value.int IntKind.i64 (IntKind.wrap IntKind.i64 ((64 : Int) - c)))) none) fun v28 =>
                                      v28 = v25 ∧ w26 = w26) ∧
                                isK IntKind.i64 v25 fun i29 =>
                                  (∀ (w30 : World), u0 w30 → Value.pointer (some b) = Value.pointer (some b) ∧ w30 = w30) ∧
                                    (∀ (w32 : World), u0 w32 → Value.pointer (some b) = Value.pointer (some b) ∧ w32 = w32) ∧
                                      rd (World.cell? (World.drew w) b) fun v34 =>
                                        (∀ (w35 : World), u0 w35 → rd (World.cell? w35 b) fun v37 => v37 = v34 ∧ w35 = w35) ∧
                                          isK IntKind.i64 v34 fun i38 =>
                                            (∀ (w39 : World), u0 w39 → Value.bool (decide (i29 = i38)) = Value.bool (decide (i29 = i38)) ∧ w39 = w39) ∧
                                              callV Try.prog (83 : Nat) [Value.pointer (some a), Value.bool (decide (i29 = i38))] (World.drew w) fun v41 w42 =>
                                                u0 w42 ∧
                                                  heldC (World.drew w42) fun u43 =>
                                                    (∀ (w44 : World), u43 w44 → Value.pointer (some a) = Value.pointer (some a) ∧ w44 = w44) ∧
                                                      (∀ (w46 : World), u43 w46 → Value.pointer (some a) = Value.pointer (some a) ∧ w46 = w46) ∧
                                                        (∀ (w48 : World), u43 w48 → Value.pointer (some a) = Value.pointer (some a) ∧ w48 = w48) ∧
                                                          (∀ (w50 : World), u43 w50 → Value.pointer (some b) = Value.pointer (some b) ∧ w50 = w50) ∧
                                                            (∀ (w52 : World), u43 w52 → Value.pointer (some b) = Value.pointer (some b) ∧ w52 = w52) ∧
                                                              rd (World.cell? (World.drew w42) b) fun v54 =>
                                                                (∀ (w55 : World), u43 w55 → rd (World.cell? w55 b) fun v57 => v57 = v54 ∧ w55 = w55) ∧
                                                                  isK IntKind.i64 v54 fun i58 =>
                                                                    (∀ (w59 : World), u43 w59 → Value.int IntKind.i64 c = Value.int IntKind.i64 c ∧ w59 = w59) ∧
                                                                      callV Try.prog (84 : Nat) [Value.pointer (some a), Value.int IntKind.i64 i58, Value.int IntKind.i64 c]
                                                                        (World.drew w42) fun v61 w62 => u43 w62 ∧ R (Value.tuple #[]) w62) :
  callV Try.prog 81 [Value.pointer (some a), Value.pointer (some b), Value.int IntKind.i64 c] w R :=
  vc_of hm ⟨fun _ => false, fun n => match n with | 0 => .take 0 (.take 1 (.take 2 (.take 3 (.take 4 (.take 5 (.take 6 (.take 7 (.take 8 (.take 9 (.take 10 (.take 11 (.take 12 (.take 13 (.one 14 (.done))))))))))))))) | 1 => .take 0 (.take 1 (.take 2 (.take 3 (.take 4 (.take 5 (.take 6 (.one 7 (.done)))))))) | _ => .done, fun _ => []⟩ Try.func81 ent81 (by kernel_rfl) h

theorem vc82 (a : Addr) (b : Addr) (c : Int) (w : World) (R : Value → World → Prop)
  (h : rd (World.cell? w b) fun v0 =>
  isK IntKind.u64 v0 fun i1 =>
    rd (orO (binV BinOp.shr (Value.int IntKind.u64 i1) (Value.int IntKind.i64 c)) none) fun v2 =>
      isK IntKind.u64 v2 fun i3 =>
        callV Try.prog (83 : Nat) [Value.pointer (some a), Value.bool (decide (i3 = (0 : Int)))] w fun v4 w5 =>
          heldC (World.drew w5) fun u6 =>
            (∀ (w7 : World), u6 w7 → Value.pointer (some a) = Value.pointer (some a) ∧ w7 = w7) ∧
              (∀ (w9 : World), u6 w9 → Value.pointer (some a) = Value.pointer (some a) ∧ w9 = w9) ∧
                (∀ (w11 : World), u6 w11 → Value.pointer (some a) = Value.pointer (some a) ∧ w11 = w11) ∧
                  (∀ (w13 : World), u6 w13 → Value.pointer (some b) = Value.pointer (some b) ∧ w13 = w13) ∧
                    (∀ (w15 : World), u6 w15 → Value.pointer (some b) = Value.pointer (some b) ∧ w15 = w15) ∧
                      rd (World.cell? (World.drew w5) b) fun v17 =>
                        (∀ (w18 : World), u6 w18 → rd (World.cell? w18 b) fun v20 => v20 = v17 ∧ w18 = w18) ∧
                          isK IntKind.u64 v17 fun i21 =>
                            (∀ (w22 : World), u6 w22 → Value.int IntKind.i64 c = Value.int IntKind.i64 c ∧ w22 = w22) ∧
                              callV Try.prog (21 : Nat) [Value.pointer (some a), Value.int IntKind.u64 i21, Value.int IntKind.i64 c] (World.drew w5) fun v24 w25 =>
                                u6 w25 ∧ R (Value.tuple #[]) w25) :
  callV Try.prog 82 [Value.pointer (some a), Value.pointer (some b), Value.int IntKind.i64 c] w R :=
  vc_of hm ⟨fun _ => false, fun n => match n with | 1 => .take 0 (.take 1 (.take 2 (.take 3 (.take 4 (.take 5 (.take 6 (.one 7 (.done)))))))) | _ => .done, fun _ => []⟩ Try.func82 ent82 (by kernel_rfl) h

theorem vc83 (a : Addr) (b : Bool) (w : World) (R : Value → World → Prop)
  (h : rd (World.cell? w (Addr.add a (2 : Nat))) fun v0 =>
  isB v0 fun t1 =>
    br t1 (stC w (Addr.add a (2 : Nat)) [Value.bool true] fun w2 => R (Value.tuple #[]) w2) (stC w (Addr.add a (2 : Nat)) [Value.bool !b] fun w3 => R (Value.tuple #[]) w3)) :
  callV Try.prog 83 [Value.pointer (some a), Value.bool b] w R :=
  vc_of hm noHints Try.func83 ent83 (by kernel_rfl) h

theorem vc84 (a : Addr) (b : Int) (c : Int) (w : World) (R : Value → World → Prop)
  (h : callV Try.prog (21 : Nat) [Value.pointer (some a), Value.int IntKind.u64 (IntKind.wrap IntKind.u64 b), Value.int IntKind.i64 c] w fun v0 w1 => R (Value.tuple #[]) w1) :
  callV Try.prog 84 [Value.pointer (some a), Value.int IntKind.i64 b, Value.int IntKind.i64 c] w R :=
  vc_of hm noHints Try.func84 ent84 (by kernel_rfl) h

theorem vc86 (a : Addr) (b : Addr) (c : Int) (w : World) (R : Value → World → Prop)
  (h : rd (World.cell? w a) fun v0 =>
  isP v0 fun o1 =>
    callV Try.prog (88 : Nat) [Value.pointer o1, Value.int IntKind.i64 c] w fun v2 w3 =>
      isTup v2 fun l4 =>
        rd l4[(0 : Nat)]? fun v5 =>
          isK IntKind.i64 v5 fun i6 =>
            isTup v2 fun l7 =>
              rd l7[(1 : Nat)]? fun v8 =>
                isB v8 fun t9 =>
                  callV Try.prog (51 : Nat) [Value.pointer (some a), Value.bool t9, Value.int IntKind.i64 (2 : Int)] w3 fun v10 w11 =>
                    stC w11 b [Value.int IntKind.i64 i6] fun w12 => R (Value.tuple #[]) w12) :
  callV Try.prog 86 [Value.pointer (some a), Value.pointer (some b), Value.int IntKind.i64 c] w R :=
  vc_of hm noHints Try.func86 ent86 (by kernel_rfl) h

theorem vc87 (a : Addr) (b : Addr) (c : Int) (w : World) (R : Value → World → Prop)
  (h : rd (World.cell? w a) fun v0 =>
  isP v0 fun o1 =>
    callV Try.prog (89 : Nat) [Value.pointer o1, Value.int IntKind.i64 c] w fun v2 w3 =>
      isTup v2 fun l4 =>
        rd l4[(0 : Nat)]? fun v5 =>
          isK IntKind.u64 v5 fun i6 =>
            isTup v2 fun l7 =>
              rd l7[(1 : Nat)]? fun v8 =>
                isB v8 fun t9 =>
                  callV Try.prog (51 : Nat) [Value.pointer (some a), Value.bool t9, Value.int IntKind.i64 (2 : Int)] w3 fun v10 w11 =>
                    stC w11 b [Value.int IntKind.u64 i6] fun w12 => R (Value.tuple #[]) w12) :
  callV Try.prog 87 [Value.pointer (some a), Value.pointer (some b), Value.int IntKind.i64 c] w R :=
  vc_of hm noHints Try.func87 ent87 (by kernel_rfl) h

theorem vc88 (a : Addr) (b : Int) (w : World) (R : Value → World → Prop)
  (h : callV Try.prog (89 : Nat) [Value.pointer (some a), Value.int IntKind.i64 b] w fun v0 w1 =>
  isTup v0 fun l2 =>
    rd l2[(0 : Nat)]? fun v3 =>
      isK IntKind.u64 v3 fun i4 =>
        isTup v0 fun l5 =>
          rd l5[(1 : Nat)]? fun v6 =>
            isB v6 fun t7 =>
              callV Try.prog (39 : Nat) [Value.int IntKind.i64 b] w1 fun v8 w9 =>
                isK IntKind.i64 v8 fun i10 =>
                  rd (orO (binV BinOp.shl (Value.int IntKind.u64 i4) (Value.int IntKind.i64 (IntKind.wrap IntKind.i64 ((64 : Int) - i10)))) none) fun v11 =>
                    isK IntKind.u64 v11 fun i12 =>
                      rd (orO (binV BinOp.shr (Value.int IntKind.i64 (IntKind.wrap IntKind.i64 i12)) (Value.int IntKind.i64 (IntKind.wrap IntKind.i64 ((64 : Int) - i10)))) none)
                        fun v13 => isK IntKind.i64 v13 fun i14 => R (Value.tuple #[Value.int IntKind.i64 i14, Value.bool t7]) w9) :
  callV Try.prog 88 [Value.pointer (some a), Value.int IntKind.i64 b] w R :=
  vc_of hm noHints Try.func88 ent88 (by kernel_rfl) h

theorem vc89 (a : Addr) (b : Int) (w : World) (R : Value → World → Prop)
  (h : callV Try.prog (39 : Nat) [Value.int IntKind.i64 b] w fun v0 w1 =>
  isK IntKind.i64 v0 fun i2 =>
    callV Try.prog (53 : Nat) [Value.pointer (some a)] w1 fun v3 w4 =>
      isK IntKind.i64 v3 fun i5 =>
        br (decide (i5 < i2))
          (heldC (World.drew w4) fun u6 =>
            (∀ (w7 : World), u6 w7 → Value.pointer (some a) = Value.pointer (some a) ∧ w7 = w7) ∧
              (∀ (w9 : World), u6 w9 → Value.pointer (some a) = Value.pointer (some a) ∧ w9 = w9) ∧
                (∀ (w11 : World), u6 w11 → Value.pointer (some (Addr.add a (1 : Nat))) = Value.pointer (some (Addr.add a (1 : Nat))) ∧ w11 = w11) ∧
                  (∀ (w13 : World), u6 w13 → Value.pointer (some a) = Value.pointer (some a) ∧ w13 = w13) ∧
                    (rd (World.cell? (World.drew w4) (Addr.add a (1 : Nat))) fun v15 =>
                        isK IntKind.i64 v15 fun i16 =>
                          u6 (World.drew w4) ∧
                            callV Try.prog (53 : Nat) [Value.pointer (some a)] (World.drew w4) fun v17 w18 =>
                              isK IntKind.i64 v17 fun i19 =>
                                u6 w18 ∧
                                  (∀ (w20 : World),
                                      u6 w20 →
                                        Value.int IntKind.i64 (IntKind.wrap IntKind.i64 (i16 + i19)) = Value.int IntKind.i64 (IntKind.wrap IntKind.i64 (i16 + i19)) ∧ w20 = w20) ∧
                                    (∀ (w22 : World), u6 w22 → Value.pointer (some a) = Value.pointer (some a) ∧ w22 = w22) ∧
                                      (∀ (w24 : World), u6 w24 → Value.pointer (some (Addr.add a (1 : Nat))) = Value.pointer (some (Addr.add a (1 : Nat))) ∧ w24 = w24) ∧
                                        stC w18 (Addr.add a (1 : Nat)) [Value.int IntKind.i64 (IntKind.wrap IntKind.i64 (i16 + i19))] fun w26 =>
                                          u6 w26 ∧ R (Value.tuple #[Value.int IntKind.u64 (0 : Int), Value.bool false]) w26) ∧
                      callV Try.prog (53 : Nat) [Value.pointer (some a)] (World.drew w4) fun v27 w28 =>
                        isK IntKind.i64 v27 fun i29 =>
                          u6 w28 ∧
                            rd (World.cell? w28 (Addr.add a (1 : Nat))) fun v30 =>
                              isK IntKind.i64 v30 fun i31 =>
                                u6 w28 ∧
                                  (∀ (w32 : World),
                                      u6 w32 →
                                        Value.int IntKind.i64 (IntKind.wrap IntKind.i64 (i31 + i29)) = Value.int IntKind.i64 (IntKind.wrap IntKind.i64 (i31 + i29)) ∧ w32 = w32) ∧
                                    (∀ (w34 : World), u6 w34 → Value.pointer (some a) = Value.pointer (some a) ∧ w34 = w34) ∧
                                      (∀ (w36 : World), u6 w36 → Value.pointer (some (Addr.add a (1 : Nat))) = Value.pointer (some (Addr.add a (1 : Nat))) ∧ w36 = w36) ∧
                                        stC w28 (Addr.add a (1 : Nat)) [Value.int IntKind.i64 (IntKind.wrap IntKind.i64 (i31 + i29))] fun w38 =>
                                          u6 w38 ∧ R (Value.tuple #[Value.int IntKind.u64 (0 : Int), Value.bool false]) w38)
          (loopC (alist [((4 : Nat), Value.int IntKind.u64 (0 : Int)), ((22 : Nat), Value.int IntKind.i64 (0 : Int))]) w4 fun u39 u40 =>
            ∀ (u41 : Nat → Value) (w42 : World),
              u39 (alist [((4 : Nat), u41 (4 : Nat)), ((22 : Nat), u41 (22 : Nat))]) w42 →
                rd (orO (binV BinOp.lss (u41 (22 : Nat)) (Value.int IntKind.i64 i2)) none) fun v44 =>
                  isB v44 fun t45 =>
                    br t45
                      (isK IntKind.u64 (u41 (4 : Nat)) fun i46 =>
                        rd (World.cell? w42 (Addr.add a (1 : Nat))) fun v47 =>
                          isK IntKind.i64 v47 fun i48 =>
                            callV Try.prog (52 : Nat) [Value.pointer (some a), Value.int IntKind.i64 i48] w42 fun v49 w50 =>
                              isK IntKind.u64 v49 fun i51 =>
                                rd (World.cell? w50 (Addr.add a (1 : Nat))) fun v52 =>
                                  isK IntKind.i64 v52 fun i53 =>
                                    stC w50 (Addr.add a (1 : Nat)) [Value.int IntKind.i64 (IntKind.wrap IntKind.i64 (i53 + (1 : Int)))] fun w54 =>
                                      rd (orO (binV BinOp.add (u41 (22 : Nat)) (Value.int IntKind.i64 (1 : Int))) none) fun v55 =>
                                        isK IntKind.i64 v55 fun i56 =>
                                          again u39 u40
                                            (alist
                                              [((4 : Nat), Value.int IntKind.u64 (orI IntKind.u64 (IntKind.wrap IntKind.u64 (i46 * (2 : Int))) i51)),
                                                ((22 : Nat), Value.int IntKind.i64 i56)])
                                            w54 (alist [((4 : Nat), u41 (4 : Nat)), ((22 : Nat), u41 (22 : Nat))]) w42)
                      (isK IntKind.u64 (u41 (4 : Nat)) fun i57 => R (Value.tuple #[Value.int IntKind.u64 i57, Value.bool true]) w42))) :
  callV Try.prog 89 [Value.pointer (some a), Value.int IntKind.i64 b] w R :=
  vc_of hm ⟨fun _ => false, fun n => match n with | 3 => .take 0 (.take 1 (.take 2 (.take 4 (.two 3 (.one 5 (.take 6 (.take 7 (.take 8 (.one 9 (.done)))))) 5 (.one 3 (.take 6 (.take 7 (.take 8 (.one 9 (.done)))))))))) | _ => .done, fun n => match n with | 6 => [4, 22] | _ => []⟩ Try.func89 ent89 (by kernel_rfl) h

end Go.Proofs.Ytfekkdmnboccfaa
