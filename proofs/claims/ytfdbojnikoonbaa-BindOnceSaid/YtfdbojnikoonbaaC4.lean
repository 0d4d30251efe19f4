/- The conditions of functions, written out: printed by a small program (VCDev.lean, vcgen.sh).  Conditions: none. -/
import Derived.Test.YtfdbojnikoonbaaTab
namespace Go.Proofs.Ytfdbojnikoonbaa
set_option linter.unusedSimpArgs false
set_option linter.unusedVariables false
open Go VC
theorem vc4 (ap : Option Addr) (an : Nat) (ac : Nat) (w : World) (R : Value → World → Prop)
  (h : callV Try.prog (7 : Nat) [] w fun v0 w1 =>
  isB v0 fun t2 =>
    callV Try.prog (8 : Nat) [] w1 fun v3 w4 =>
      isP v3 fun o5 =>
        br (Option.isNone o5) (R (Value.bool false) w4)
          (cutC
            (fun u6 =>
              loopC (alist [((5 : Nat), Value.slice none (0 : Nat) (0 : Nat)), ((6 : Nat), Value.int IntKind.i64 (0 : Int))]) w4 fun u7 u8 =>
                ∀ (u9 : Nat → Value) (w10 : World),
                  u7 (alist [((5 : Nat), u9 (5 : Nat)), ((6 : Nat), u9 (6 : Nat))]) w10 →
                    isK IntKind.i64 (u9 (6 : Nat)) fun i12 =>
                      br (decide (i12 < (↑an : Int)))
                        (isK IntKind.i64 (u9 (6 : Nat)) fun i13 =>
                          br (decide (i13 < (200 : Int)))
                            (cutC
                              (fun u14 =>
                                isK IntKind.i64 (u9 (6 : Nat)) fun i15 =>
                                  rd ap fun a16 =>
                                    ((0 : Int) ≤ i15 ∧ i15 < (↑an : Int)) ∧
                                      rd (cellsAt w10 (Addr.add a16 (Int.toNat i15 * (4 : Nat))) (4 : Nat)) fun l17 =>
                                        allocC w10
                                          (Obj.cells
                                            #[Value.int IntKind.i64 (0 : Int), Value.int IntKind.i64 (0 : Int), Value.int IntKind.u16 (0 : Int), Value.int IntKind.i64 (0 : Int)]
                                            (35 : Nat))
                                          fun n18 w19 =>
                                          rd (gd (List.length l17 == (4 : Nat))) fun _x =>
                                            stC w19 { block := n18, off := (0 : Nat) : Addr } l17 fun w20 =>
                                              rd (World.cell? w20 { block := n18, off := (0 : Nat) : Addr }) fun v21 =>
                                                isK IntKind.i64 v21 fun i22 =>
                                                  br (decide (i22 < (0 : Int))) (u14 (alist [((5 : Nat), u9 (5 : Nat))]) w20)
                                                    (rd (World.cell? w20 { block := n18, off := (0 : Nat) : Addr }) fun v23 =>
                                                      isK IntKind.i64 v23 fun i24 =>
                                                        br (decide ((3 : Int) < i24)) (u14 (alist [((5 : Nat), u9 (5 : Nat))]) w20)
                                                          (cutC
                                                            (fun u25 =>
                                                              rd (World.cell? w20 { block := n18, off := (0 : Nat) : Addr }) fun v26 =>
                                                                isK IntKind.i64 v26 fun i27 =>
                                                                  br (decide (i27 = (3 : Int)))
                                                                    (stC w20 { block := n18, off := (3 : Nat) : Addr } [Value.int IntKind.i64 (0 : Int)] fun w28 =>
                                                                      rd (World.cell? w28 { block := n18, off := (1 : Nat) : Addr }) fun v29 =>
                                                                        isK IntKind.i64 v29 fun i30 =>
                                                                          rd (World.cell? w28 { block := n18, off := (2 : Nat) : Addr }) fun v31 =>
                                                                            isK IntKind.u16 v31 fun i32 =>
                                                                              callV Try.prog (12 : Nat) [Value.pointer o5, Value.int IntKind.i64 i30, Value.int IntKind.u16 i32] w28
                                                                                fun v33 w34 =>
                                                                                isK IntKind.i64 v33 fun i35 => u25 (alist [((8 : Nat), Value.int IntKind.i64 i35)]) w34)
                                                                    (rd (World.cell? w20 { block := n18, off := (1 : Nat) : Addr }) fun v36 =>
                                                                      isK IntKind.i64 v36 fun i37 =>
                                                                        rd (World.cell? w20 { block := n18, off := (2 : Nat) : Addr }) fun v38 =>
                                                                          isK IntKind.u16 v38 fun i39 =>
                                                                            rd (World.cell? w20 { block := n18, off := (3 : Nat) : Addr }) fun v40 =>
                                                                              isK IntKind.i64 v40 fun i41 =>
                                                                                callV Try.prog (9 : Nat)
                                                                                  [Value.pointer o5, Value.int IntKind.i64 i37, Value.int IntKind.u16 i39,
                                                                                    Value.int IntKind.i64 i41]
                                                                                  w20 fun v42 w43 =>
                                                                                  isK IntKind.i64 v42 fun i44 => u25 (alist [((8 : Nat), Value.int IntKind.i64 i44)]) w43))
                                                            fun u45 =>
                                                            ∀ (u46 : Nat → Value) (w47 : World),
                                                              u45 (alist [((8 : Nat), u46 (8 : Nat))]) w47 →
                                                                isK IntKind.i64 (u46 (8 : Nat)) fun i49 =>
                                                                  br (decide (i49 = (0 : Int)))
                                                                    (isSl (u9 (5 : Nat)) fun o50 n51 n52 =>
                                                                      rd (cellsAt w47 { block := n18, off := (0 : Nat) : Addr } (4 : Nat)) fun l53 =>
                                                                        runs Try.prog (Instr.buildSlice (33 : Nat) (1 : Nat) #[((0 : Nat), Value.agg (List.toArray l53))]) w47
                                                                          fun v54 w55 =>
                                                                          isSl v54 fun o56 n57 n58 =>
                                                                            runs Try.prog
                                                                              (Builtin.append_ #[(33 : Nat), (33 : Nat)] (33 : Nat)
                                                                                #[Value.slice o50 n51 n52, Value.slice o56 n57 n58])
                                                                              w55 fun v59 w60 => isSl v59 fun o61 n62 n63 => u14 (alist [((5 : Nat), Value.slice o61 n62 n63)]) w60)
                                                                    (u14 (alist [((5 : Nat), u9 (5 : Nat))]) w47))))
                              fun u64 =>
                              ∀ (u65 : Nat → Value) (w66 : World),
                                u64 (alist [((5 : Nat), u65 (5 : Nat))]) w66 →
                                  isK IntKind.i64 (u9 (6 : Nat)) fun i68 =>
                                    again u7 u8 (alist [((5 : Nat), u65 (5 : Nat)), ((6 : Nat), Value.int IntKind.i64 (IntKind.wrap IntKind.i64 (i68 + (1 : Int))))]) w66
                                      (alist [((5 : Nat), u9 (5 : Nat)), ((6 : Nat), u9 (6 : Nat))]) w10)
                            (u6 (alist [((5 : Nat), u9 (5 : Nat))]) w10))
                        (u6 (alist [((5 : Nat), u9 (5 : Nat))]) w10))
            fun u69 =>
            ∀ (u70 : Nat → Value) (w71 : World),
              u69 (alist [((5 : Nat), u70 (5 : Nat))]) w71 →
                loopC (alist [((9 : Nat), Value.int IntKind.i64 (0 : Int))]) w71 fun u73 u74 =>
                  ∀ (u75 : Nat → Value) (w76 : World),
                    u73 (alist [((9 : Nat), u75 (9 : Nat))]) w76 →
                      isK IntKind.i64 (u75 (9 : Nat)) fun i78 =>
                        isSl (u70 (5 : Nat)) fun o79 n80 n81 =>
                          br (decide (i78 < (↑n80 : Int)))
                            (cutC
                              (fun u82 =>
                                heldC (World.drew w76) fun u83 =>
                                  (∀ (w84 : World), u83 w84 → Value.pointer o5 = Value.pointer o5 ∧ w84 = w84) ∧
                                    (∀ (w86 : World), u83 w86 → u70 (5 : Nat) = u70 (5 : Nat) ∧ w86 = w86) ∧
                                      isSl (u70 (5 : Nat)) fun o88 n89 n90 =>
                                        (∀ (w91 : World), u83 w91 → u75 (9 : Nat) = u75 (9 : Nat) ∧ w91 = w91) ∧
                                          isK IntKind.i64 (u75 (9 : Nat)) fun i93 =>
                                            rd o88 fun a94 =>
                                              ((0 : Int) ≤ i93 ∧ i93 < (↑n89 : Int)) ∧
                                                (∀ (w95 : World),
                                                    u83 w95 →
                                                      rd o88 fun a97 =>
                                                        ((0 : Int) ≤ i93 ∧ i93 < (↑n89 : Int)) ∧
                                                          Value.pointer (some (Addr.add a97 (Int.toNat i93 * (4 : Nat)))) =
                                                              Value.pointer (some (Addr.add a94 (Int.toNat i93 * (4 : Nat)))) ∧
                                                            w95 = w95) ∧
                                                  (∀ (w98 : World),
                                                      u83 w98 →
                                                        Value.pointer (some (Addr.add (Addr.add a94 (Int.toNat i93 * (4 : Nat))) (1 : Nat))) =
                                                            Value.pointer (some (Addr.add (Addr.add a94 (Int.toNat i93 * (4 : Nat))) (1 : Nat))) ∧
                                                          w98 = w98) ∧
                                                    rd (World.cell? (World.drew w76) (Addr.add (Addr.add a94 (Int.toNat i93 * (4 : Nat))) (1 : Nat))) fun v100 =>
                                                      (∀ (w101 : World),
                                                          u83 w101 →
                                                            rd (World.cell? w101 (Addr.add (Addr.add a94 (Int.toNat i93 * (4 : Nat))) (1 : Nat))) fun v103 =>
                                                              v103 = v100 ∧ w101 = w101) ∧
                                                        isK IntKind.i64 v100 fun i104 =>
                                                          (∀ (w105 : World), u83 w105 → u70 (5 : Nat) = u70 (5 : Nat) ∧ w105 = w105) ∧
                                                            isSl (u70 (5 : Nat)) fun o107 n108 n109 =>
                                                              (∀ (w110 : World), u83 w110 → u75 (9 : Nat) = u75 (9 : Nat) ∧ w110 = w110) ∧
                                                                isK IntKind.i64 (u75 (9 : Nat)) fun i112 =>
                                                                  rd o107 fun a113 =>
                                                                    ((0 : Int) ≤ i112 ∧ i112 < (↑n108 : Int)) ∧
                                                                      (∀ (w114 : World),
                                                                          u83 w114 →
                                                                            rd o107 fun a116 =>
                                                                              ((0 : Int) ≤ i112 ∧ i112 < (↑n108 : Int)) ∧
                                                                                Value.pointer (some (Addr.add a116 (Int.toNat i112 * (4 : Nat)))) =
                                                                                    Value.pointer (some (Addr.add a113 (Int.toNat i112 * (4 : Nat)))) ∧
                                                                                  w114 = w114) ∧
                                                                        (∀ (w117 : World),
                                                                            u83 w117 →
                                                                              Value.pointer (some (Addr.add (Addr.add a113 (Int.toNat i112 * (4 : Nat))) (2 : Nat))) =
                                                                                  Value.pointer (some (Addr.add (Addr.add a113 (Int.toNat i112 * (4 : Nat))) (2 : Nat))) ∧
                                                                                w117 = w117) ∧
                                                                          rd (World.cell? (World.drew w76) (Addr.add (Addr.add a113 (Int.toNat i112 * (4 : Nat))) (2 : Nat)))
                                                                            fun v119 =>
                                                                            (∀ (w120 : World),
                                                                                u83 w120 →
                                                                                  rd (World.cell? w120 (Addr.add (Addr.add a113 (Int.toNat i112 * (4 : Nat))) (2 : Nat)))
                                                                                    fun v122 => v122 = v119 ∧ w120 = w120) ∧
                                                                              isK IntKind.u16 v119 fun i123 =>
                                                                                callV Try.prog (11 : Nat) [Value.pointer o5, Value.int IntKind.i64 i104, Value.int IntKind.u16 i123]
                                                                                  (World.drew w76) fun v124 w125 =>
                                                                                  u83 w125 ∧
                                                                                    (∀ (w126 : World), u83 w126 → v124 = v124 ∧ w126 = w126) ∧
                                                                                      isTup v124 fun l128 =>
                                                                                        rd l128[(0 : Nat)]? fun v129 =>
                                                                                          (∀ (w130 : World),
                                                                                              u83 w130 →
                                                                                                isTup v124 fun l132 => rd l132[(0 : Nat)]? fun v133 => v133 = v129 ∧ w130 = w130) ∧
                                                                                            isK IntKind.i64 v129 fun i134 =>
                                                                                              isTup v124 fun l135 =>
                                                                                                rd l135[(1 : Nat)]? fun v136 =>
                                                                                                  (∀ (w137 : World),
                                                                                                      u83 w137 →
                                                                                                        isTup v124 fun l139 =>
                                                                                                          rd l139[(1 : Nat)]? fun v140 => v140 = v136 ∧ w137 = w137) ∧
                                                                                                    isK IntKind.i64 v136 fun i141 =>
                                                                                                      (∀ (w142 : World),
                                                                                                          u83 w142 →
                                                                                                            Value.int IntKind.i64 i134 = Value.int IntKind.i64 i134 ∧ w142 = w142) ∧
                                                                                                        (∀ (w144 : World),
                                                                                                            u83 w144 →
                                                                                                              Value.int IntKind.i64 i141 = Value.int IntKind.i64 i141 ∧
                                                                                                                w144 = w144) ∧
                                                                                                          br (!decide (i141 = (0 : Int))) (u82 (alist []) w125)
                                                                                                            (cutC
                                                                                                              (fun u146 =>
                                                                                                                loopC
                                                                                                                  (alist
                                                                                                                    [((12 : Nat), Value.int IntKind.i64 (0 : Int)),
                                                                                                                      ((13 : Nat), Value.bool false),
                                                                                                                      ((14 : Nat), Value.int IntKind.i64 (0 : Int))])
                                                                                                                  w125 fun u147 u148 =>
                                                                                                                  ∀ (u149 : Nat → Value) (w150 : World),
                                                                                                                    u147
                                                                                                                        (alist
                                                                                                                          [((12 : Nat), u149 (12 : Nat)),
                                                                                                                            ((13 : Nat), u149 (13 : Nat)),
                                                                                                                            ((14 : Nat), u149 (14 : Nat))])
                                                                                                                        w150 →
                                                                                                                      isK IntKind.i64 (u149 (14 : Nat)) fun i152 =>
                                                                                                                        isSl (u70 (5 : Nat)) fun o153 n154 n155 =>
                                                                                                                          br (decide (i152 < (↑n154 : Int)))
                                                                                                                            (cutC
                                                                                                                              (fun u156 =>
                                                                                                                                cutC
                                                                                                                                  (fun u157 =>
                                                                                                                                    isSl (u70 (5 : Nat)) fun o158 n159 n160 =>
                                                                                                                                      isK IntKind.i64 (u149 (14 : Nat)) fun i161 =>
                                                                                                                                        rd o158 fun a162 =>
                                                                                                                                          ((0 : Int) ≤ i161 ∧
                                                                                                                                              i161 < (↑n159 : Int)) ∧
                                                                                                                                            rd
                                                                                                                                              (World.cell? (World.drew w150)
                                                                                                                                                (Addr.add
                                                                                                                                                  (Addr.add a162
                                                                                                                                                    (Int.toNat i161 * (4 : Nat)))
                                                                                                                                                  (1 : Nat)))
                                                                                                                                              fun v163 =>
                                                                                                                                              isK IntKind.i64 v163 fun i164 =>
                                                                                                                                                isSl (u70 (5 : Nat))
                                                                                                                                                  fun o165 n166 n167 =>
                                                                                                                                                  isK IntKind.i64 (u75 (9 : Nat))
                                                                                                                                                    fun i168 =>
                                                                                                                                                    rd o165 fun a169 =>
                                                                                                                                                      ((0 : Int) ≤ i168 ∧
                                                                                                                                                          i168 < (↑n166 : Int)) ∧
                                                                                                                                                        rd
                                                                                                                                                          (World.cell?
                                                                                                                                                            (World.drew w150)
                                                                                                                                                            (Addr.add
                                                                                                                                                              (Addr.add a169
                                                                                                                                                                (Int.toNat i168 *
                                                                                                                                                                  (4 : Nat)))
                                                                                                                                                              (1 : Nat)))
                                                                                                                                                          fun v170 =>
                                                                                                                                                          isK IntKind.i64 v170
                                                                                                                                                            fun i171 =>
                                                                                                                                                            br
                                                                                                                                                              (decide (i164 = i171))
                                                                                                                                                              (isSl (u70 (5 : Nat))
                                                                                                                                                                fun o172 n173
                                                                                                                                                                  n174 =>
                                                                                                                                                                isK IntKind.i64
                                                                                                                                                                  (u149 (14 : Nat))
                                                                                                                                                                  fun i175 =>
                                                                                                                                                                  rd o172
                                                                                                                                                                    fun a176 =>
                                                                                                                                                                    ((0 : Int) ≤
                                                                                                                                                                          i175 ∧
                                                                                                                                                                        i175 <
                                                                                                                                                                          (↑n173 :
                                                                                                                                                                            Int)) ∧
                                                                                                                                                                      rd
                                                                                                                                                                        (World.cell?
                                                                                                                                                                          (World.drew
                                                                                                                                                                            w150)
                                                                                                                                                                          (Addr.add
                                                                                                                                                                            (Addr.add
                                                                                                                                                                              a176
                                                                                                                                                                              (Int.toNat
                                                                                                                                                                                  i175 *
                                                                                                                                                                                (4 :
                                                                                                                                                                                  Nat)))
                                                                                                                                                                            (2 :
                                                                                                                                                                              Nat)))
                                                                                                                                                                        fun v177 =>
                                                                                                                                                                        isK
                                                                                                                                                                          IntKind.u16
                                                                                                                                                                          v177
                                                                                                                                                                          fun
                                                                                                                                                                            i178 =>
                                                                                                                                                                          isSl
                                                                                                                                                                            (u70
                                                                                                                                                                              (5 :
                                                                                                                                                                                Nat))
                                                                                                                                                                            fun o179
                                                                                                                                                                              n180
                                                                                                                                                                              n181 =>
                                                                                                                                                                            isK
                                                                                                                                                                              IntKind.i64
                                                                                                                                                                              (u75
                                                                                                                                                                                (9 :
                                                                                                                                                                                  Nat))
                                                                                                                                                                              fun
                                                                                                                                                                                i182 =>
                                                                                                                                                                              rd
                                                                                                                                                                                o179
                                                                                                                                                                                fun
                                                                                                                                                                                  a183 =>
                                                                                                                                                                                ((0 :
                                                                                                                                                                                        Int) ≤
                                                                                                                                                                                      i182 ∧
                                                                                                                                                                                    i182 <
                                                                                                                                                                                      (↑n180 :
                                                                                                                                                                                        Int)) ∧
                                                                                                                                                                                  rd
                                                                                                                                                                                    (World.cell?
                                                                                                                                                                                      (World.drew
                                                                                                                                                                                        w150)
                                                                                                                                                                                      (Addr.add
                                                                                                                                                                                        (Addr.add
                                                                                                                                                                                          a183
                                                                                                                                                                                          (Int.toNat
                                                                                                                                                                                              i182 *
                                                                                                                                                                                            (4 :
                                                                                                                                                                                              Nat)))
                                                                                                                                                                                        (2 :
                                                                                                                                                                                          Nat)))
                                                                                                                                                                                    fun
                                                                                                                                                                                      v184 =>
                                                                                                                                                                                    isK
                                                                                                                                                                                      IntKind.u16
                                                                                                                                                                                      v184
                                                                                                                                                                                      fun
                                                                                                                                                                                        i185 =>
                                                                                                                                                                                      br
                                                                                                                                                                                        (decide
                                                                                                                                                                                          (i178 =
                                                                                                                                                                                            i185))
                                                                                                                                                                                        (isB
                                                                                                                                                                                          (u149
                                                                                                                                                                                            (13 :
                                                                                                                                                                                              Nat))
                                                                                                                                                                                          fun
                                                                                                                                                                                            t186 =>
                                                                                                                                                                                          br
                                                                                                                                                                                            t186
                                                                                                                                                                                            (u157
                                                                                                                                                                                              (alist
                                                                                                                                                                                                [((13 :
                                                                                                                                                                                                      Nat),
                                                                                                                                                                                                    Value.bool
                                                                                                                                                                                                      true)])
                                                                                                                                                                                              (World.drew
                                                                                                                                                                                                w150))
                                                                                                                                                                                            (isSl
                                                                                                                                                                                              (u70
                                                                                                                                                                                                (5 :
                                                                                                                                                                                                  Nat))
                                                                                                                                                                                              fun
                                                                                                                                                                                                o187
                                                                                                                                                                                                n188
                                                                                                                                                                                                n189 =>
                                                                                                                                                                                              isK
                                                                                                                                                                                                IntKind.i64
                                                                                                                                                                                                (u149
                                                                                                                                                                                                  (14 :
                                                                                                                                                                                                    Nat))
                                                                                                                                                                                                fun
                                                                                                                                                                                                  i190 =>
                                                                                                                                                                                                rd
                                                                                                                                                                                                  o187
                                                                                                                                                                                                  fun
                                                                                                                                                                                                    a191 =>
                                                                                                                                                                                                  ((0 :
                                                                                                                                                                                                          Int) ≤
                                                                                                                                                                                                        i190 ∧
                                                                                                                                                                                                      i190 <
                                                                                                                                                                                                        (↑n188 :
                                                                                                                                                                                                          Int)) ∧
                                                                                                                                                                                                    rd
                                                                                                                                                                                                      (World.cell?
                                                                                                                                                                                                        (World.drew
                                                                                                                                                                                                          w150)
                                                                                                                                                                                                        (Addr.add
                                                                                                                                                                                                          (Addr.add
                                                                                                                                                                                                            a191
                                                                                                                                                                                                            (Int.toNat
                                                                                                                                                                                                                i190 *
                                                                                                                                                                                                              (4 :
                                                                                                                                                                                                                Nat)))
                                                                                                                                                                                                          (3 :
                                                                                                                                                                                                            Nat)))
                                                                                                                                                                                                      fun
                                                                                                                                                                                                        v192 =>
                                                                                                                                                                                                      isK
                                                                                                                                                                                                        IntKind.i64
                                                                                                                                                                                                        v192
                                                                                                                                                                                                        fun
                                                                                                                                                                                                          i193 =>
                                                                                                                                                                                                        u157
                                                                                                                                                                                                          (alist
                                                                                                                                                                                                            [((13 :
                                                                                                                                                                                                                  Nat),
                                                                                                                                                                                                                Value.bool
                                                                                                                                                                                                                  (decide
                                                                                                                                                                                                                    (i193 =
                                                                                                                                                                                                                      i134)))])
                                                                                                                                                                                                          (World.drew
                                                                                                                                                                                                            w150)))
                                                                                                                                                                                        (u157
                                                                                                                                                                                          (alist
                                                                                                                                                                                            [((13 :
                                                                                                                                                                                                  Nat),
                                                                                                                                                                                                u149
                                                                                                                                                                                                  (13 :
                                                                                                                                                                                                    Nat))])
                                                                                                                                                                                          (World.drew
                                                                                                                                                                                            w150)))
                                                                                                                                                              (u157
                                                                                                                                                                (alist
                                                                                                                                                                  [((13 : Nat),
                                                                                                                                                                      u149
                                                                                                                                                                        (13 :
                                                                                                                                                                          Nat))])
                                                                                                                                                                (World.drew w150)))
                                                                                                                                  fun u194 =>
                                                                                                                                  ∀ (u195 : Nat → Value) (w196 : World),
                                                                                                                                    u194 (alist [((13 : Nat), u195 (13 : Nat))])
                                                                                                                                        w196 →
                                                                                                                                      heldC (World.drew w196) fun u198 =>
                                                                                                                                        (∀ (w199 : World),
                                                                                                                                            u198 w199 →
                                                                                                                                              Value.pointer o5 = Value.pointer o5 ∧
                                                                                                                                                w199 = w199) ∧
                                                                                                                                          (∀ (w201 : World),
                                                                                                                                              u198 w201 →
                                                                                                                                                u70 (5 : Nat) = u70 (5 : Nat) ∧
                                                                                                                                                  w201 = w201) ∧
                                                                                                                                            isSl (u70 (5 : Nat))
                                                                                                                                              fun o203 n204 n205 =>
                                                                                                                                              (∀ (w206 : World),
                                                                                                                                                  u198 w206 →
                                                                                                                                                    u149 (14 : Nat) =
                                                                                                                                                        u149 (14 : Nat) ∧
                                                                                                                                                      w206 = w206) ∧
                                                                                                                                                isK IntKind.i64 (u149 (14 : Nat))
                                                                                                                                                  fun i208 =>
                                                                                                                                                  rd o203 fun a209 =>
                                                                                                                                                    ((0 : Int) ≤ i208 ∧
                                                                                                                                                        i208 < (↑n204 : Int)) ∧
                                                                                                                                                      (∀ (w210 : World),
                                                                                                                                                          u198 w210 →
                                                                                                                                                            rd o203 fun a212 =>
                                                                                                                                                              ((0 : Int) ≤ i208 ∧
                                                                                                                                                                  i208 <
                                                                                                                                                                    (↑n204 : Int)) ∧
                                                                                                                                                                Value.pointer
                                                                                                                                                                      (some
                                                                                                                                                                        (Addr.add
                                                                                                                                                                          a212
                                                                                                                                                                          (Int.toNat
                                                                                                                                                                              i208 *
                                                                                                                                                                            (4 :
                                                                                                                                                                              Nat)))) =
                                                                                                                                                                    Value.pointer
                                                                                                                                                                      (some
                                                                                                                                                                        (Addr.add
                                                                                                                                                                          a209
                                                                                                                                                                          (Int.toNat
                                                                                                                                                                              i208 *
                                                                                                                                                                            (4 :
                                                                                                                                                                              Nat)))) ∧
                                                                                                                                                                  w210 = w210) ∧
                                                                                                                                                        (∀ (w213 : World),
                                                                                                                                                            u198 w213 →
                                                                                                                                                              Value.pointer
                                                                                                                                                                    (some
                                                                                                                                                                      (Addr.add
                                                                                                                                                                        (Addr.add
                                                                                                                                                                          a209
                                                                                                                                                                          (Int.toNat
                                                                                                                                                                              i208 *
                                                                                                                                                                            (4 :
                                                                                                                                                                              Nat)))
                                                                                                                                                                        (1 :
                                                                                                                                                                          Nat))) =
                                                                                                                                                                  Value.pointer
                                                                                                                                                                    (some
                                                                                                                                                                      (Addr.add
                                                                                                                                                                        (Addr.add
                                                                                                                                                                          a209
                                                                                                                                                                          (Int.toNat
                                                                                                                                                                              i208 *
                                                                                                                                                                            (4 :
                                                                                                                                                                              Nat)))
                                                                                                                                                                        (1 :
                                                                                                                                                                          Nat))) ∧
                                                                                                                                                                w213 = w213) ∧
                                                                                                                                                          rd
                                                                                                                                                            (World.cell?
                                                                                                                                                              (World.drew w196)
                                                                                                                                                              (Addr.add
                                                                                                                                                                (Addr.add a209
                                                                                                                                                                  (Int.toNat i208 *
                                                                                                                                                                    (4 : Nat)))
                                                                                                                                                                (1 : Nat)))
                                                                                                                                                            fun v215 =>
                                                                                                                                                            (∀ (w216 : World),
                                                                                                                                                                u198 w216 →
                                                                                                                                                                  rd
                                                                                                                                                                    (World.cell?
                                                                                                                                                                      w216
                                                                                                                                                                      (Addr.add
                                                                                                                                                                        (Addr.add
                                                                                                                                                                          a209
                                                                                                                                                                          (Int.toNat
                                                                                                                                                                              i208 *
                                                                                                                                                                            (4 :
                                                                                                                                                                              Nat)))
                                                                                                                                                                        (1 : Nat)))
                                                                                                                                                                    fun v218 =>
                                                                                                                                                                    v218 = v215 ∧
                                                                                                                                                                      w216 = w216) ∧
                                                                                                                                                              isK IntKind.i64 v215
                                                                                                                                                                fun i219 =>
                                                                                                                                                                (∀ (w220 : World),
                                                                                                                                                                    u198 w220 →
                                                                                                                                                                      u70
                                                                                                                                                                            (5 :
                                                                                                                                                                              Nat) =
                                                                                                                                                                          u70
                                                                                                                                                                            (5 :
                                                                                                                                                                              Nat) ∧
                                                                                                                                                                        w220 =
                                                                                                                                                                          w220) ∧
                                                                                                                                                                  isSl
                                                                                                                                                                    (u70 (5 : Nat))
                                                                                                                                                                    fun o222 n223
                                                                                                                                                                      n224 =>
                                                                                                                                                                    (∀
                                                                                                                                                                        (w225 :
                                                                                                                                                                          World),
                                                                                                                                                                        u198 w225 →
                                                                                                                                                                          u149
                                                                                                                                                                                (14 :
                                                                                                                                                                                  Nat) =
                                                                                                                                                                              u149
                                                                                                                                                                                (14 :
                                                                                                                                                                                  Nat) ∧
                                                                                                                                                                            w225 =
                                                                                                                                                                              w225) ∧
                                                                                                                                                                      isK
                                                                                                                                                                        IntKind.i64
                                                                                                                                                                        (u149
                                                                                                                                                                          (14 :
                                                                                                                                                                            Nat))
                                                                                                                                                                        fun i227 =>
                                                                                                                                                                        rd o222
                                                                                                                                                                          fun
                                                                                                                                                                            a228 =>
                                                                                                                                                                          ((0 :
                                                                                                                                                                                  Int) ≤
                                                                                                                                                                                i227 ∧
                                                                                                                                                                              i227 <
                                                                                                                                                                                (↑n223 :
                                                                                                                                                                                  Int)) ∧
                                                                                                                                                                            (∀
                                                                                                                                                                                (w229 :
                                                                                                                                                                                  World),
                                                                                                                                                                                u198
                                                                                                                                                                                    w229 →
                                                                                                                                                                                  rd
                                                                                                                                                                                    o222
                                                                                                                                                                                    fun
                                                                                                                                                                                      a231 =>
                                                                                                                                                                                    ((0 :
                                                                                                                                                                                            Int) ≤
                                                                                                                                                                                          i227 ∧
                                                                                                                                                                                        i227 <
                                                                                                                                                                                          (↑n223 :
                                                                                                                                                                                            Int)) ∧
                                                                                                                                                                                      Value.pointer
                                                                                                                                                                                            (some
                                                                                                                                                                                              (Addr.add
                                                                                                                                                                                                a231
                                                                                                                                                                                                (Int.toNat
                                                                                                                                                                                                    i227 *
                                                                                                                                                                                                  (4 :
                                                                                                                                                                                                    Nat)))) =
                                                                                                                                                                                          Value.pointer
                                                                                                                                                                                            (some
                                                                                                                                                                                              (Addr.add
                                                                                                                                                                                                a228
                                                                                                                                                                                                (Int.toNat
                                                                                                                                                                                                    i227 *
                                                                                                                                                                                                  (4 :
                                                                                                                                                                                                    Nat)))) ∧
                                                                                                                                                                                        w229 =
                                                                                                                                                                                          w229) ∧
                                                                                                                                                                              (∀
                                                                                                                                                                                  (w232 :
                                                                                                                                                                                    World),
                                                                                                                                                                                  u198
                                                                                                                                                                                      w232 →
                                                                                                                                                                                    Value.pointer
                                                                                                                                                                                          (some
                                                                                                                                                                                            (Addr.add
                                                                                                                                                                                              (Addr.add
                                                                                                                                                                                                a228
                                                                                                                                                                                                (Int.toNat
                                                                                                                                                                                                    i227 *
                                                                                                                                                                                                  (4 :
                                                                                                                                                                                                    Nat)))
                                                                                                                                                                                              (2 :
                                                                                                                                                                                                Nat))) =
                                                                                                                                                                                        Value.pointer
                                                                                                                                                                                          (some
                                                                                                                                                                                            (Addr.add
                                                                                                                                                                                              (Addr.add
                                                                                                                                                                                                a228
                                                                                                                                                                                                (Int.toNat
                                                                                                                                                                                                    i227 *
                                                                                                                                                                                                  (4 :
                                                                                                                                                                                                    Nat)))
                                                                                                                                                                                              (2 :
                                                                                                                                                                                                Nat))) ∧
                                                                                                                                                                                      w232 =
                                                                                                                                                                                        w232) ∧
                                                                                                                                                                                rd
                                                                                                                                                                                  (World.cell?
                                                                                                                                                                                    (World.drew
                                                                                                                                                                                      w196)
                                                                                                                                                                                    (Addr.add
                                                                                                                                                                                      (Addr.add
                                                                                                                                                                                        a228
                                                                                                                                                                                        (Int.toNat
                                                                                                                                                                                            i227 *
                                                                                                                                                                                          (4 :
                                                                                                                                                                                            Nat)))
                                                                                                                                                                                      (2 :
                                                                                                                                                                                        Nat)))
                                                                                                                                                                                  fun
                                                                                                                                                                                    v234 =>
                                                                                                                                                                                  (∀
                                                                                                                                                                                      (w235 :
                                                                                                                                                                                        World),
                                                                                                                                                                                      u198
                                                                                                                                                                                          w235 →
                                                                                                                                                                                        rd
                                                                                                                                                                                          (World.cell?
                                                                                                                                                                                            w235
                                                                                                                                                                                            (Addr.add
                                                                                                                                                                                              (Addr.add
                                                                                                                                                                                                a228
                                                                                                                                                                                                (Int.toNat
                                                                                                                                                                                                    i227 *
                                                                                                                                                                                                  (4 :
                                                                                                                                                                                                    Nat)))
                                                                                                                                                                                              (2 :
                                                                                                                                                                                                Nat)))
                                                                                                                                                                                          fun
                                                                                                                                                                                            v237 =>
                                                                                                                                                                                          v237 =
                                                                                                                                                                                              v234 ∧
                                                                                                                                                                                            w235 =
                                                                                                                                                                                              w235) ∧
                                                                                                                                                                                    isK
                                                                                                                                                                                      IntKind.u16
                                                                                                                                                                                      v234
                                                                                                                                                                                      fun
                                                                                                                                                                                        i238 =>
                                                                                                                                                                                      callV
                                                                                                                                                                                        Try.prog
                                                                                                                                                                                        (11 :
                                                                                                                                                                                          Nat)
                                                                                                                                                                                        [Value.pointer
                                                                                                                                                                                            o5,
                                                                                                                                                                                          Value.int
                                                                                                                                                                                            IntKind.i64
                                                                                                                                                                                            i219,
                                                                                                                                                                                          Value.int
                                                                                                                                                                                            IntKind.u16
                                                                                                                                                                                            i238]
                                                                                                                                                                                        (World.drew
                                                                                                                                                                                          w196)
                                                                                                                                                                                        fun
                                                                                                                                                                                          v239
                                                                                                                                                                                          w240 =>
                                                                                                                                                                                        u198
                                                                                                                                                                                            w240 ∧
                                                                                                                                                                                          (∀
                                                                                                                                                                                              (w241 :
                                                                                                                                                                                                World),
                                                                                                                                                                                              u198
                                                                                                                                                                                                  w241 →
                                                                                                                                                                                                v239 =
                                                                                                                                                                                                    v239 ∧
                                                                                                                                                                                                  w241 =
                                                                                                                                                                                                    w241) ∧
                                                                                                                                                                                            isTup
                                                                                                                                                                                              v239
                                                                                                                                                                                              fun
                                                                                                                                                                                                l243 =>
                                                                                                                                                                                              rd
                                                                                                                                                                                                l243[(0 :
                                                                                                                                                                                                    Nat)]?
                                                                                                                                                                                                fun
                                                                                                                                                                                                  v244 =>
                                                                                                                                                                                                (∀
                                                                                                                                                                                                    (w245 :
                                                                                                                                                                                                      World),
                                                                                                                                                                                                    u198
                                                                                                                                                                                                        w245 →
                                                                                                                                                                                                      isTup
                                                                                                                                                                                                        v239
                                                                                                                                                                                                        fun
                                                                                                                                                                                                          l247 =>
                                                                                                                                                                                                        rd
                                                                                                                                                                                                          l247[(0 :
                                                                                                                                                                                                              Nat)]?
                                                                                                                                                                                                          fun
                                                                                                                                                                                                            v248 =>
                                                                                                                                                                                                          v248 =
                                                                                                                                                                                                              v244 ∧
                                                                                                                                                                                                            w245 =
                                                                                                                                                                                                              w245) ∧
                                                                                                                                                                                                  isK
                                                                                                                                                                                                    IntKind.i64
                                                                                                                                                                                                    v244
                                                                                                                                                                                                    fun
                                                                                                                                                                                                      i249 =>
                                                                                                                                                                                                    isTup
                                                                                                                                                                                                      v239
                                                                                                                                                                                                      fun
                                                                                                                                                                                                        l250 =>
                                                                                                                                                                                                      rd
                                                                                                                                                                                                        l250[(1 :
                                                                                                                                                                                                            Nat)]?
                                                                                                                                                                                                        fun
                                                                                                                                                                                                          v251 =>
                                                                                                                                                                                                        (∀
                                                                                                                                                                                                            (w252 :
                                                                                                                                                                                                              World),
                                                                                                                                                                                                            u198
                                                                                                                                                                                                                w252 →
                                                                                                                                                                                                              isTup
                                                                                                                                                                                                                v239
                                                                                                                                                                                                                fun
                                                                                                                                                                                                                  l254 =>
                                                                                                                                                                                                                rd
                                                                                                                                                                                                                  l254[(1 :
                                                                                                                                                                                                                      Nat)]?
                                                                                                                                                                                                                  fun
                                                                                                                                                                                                                    v255 =>
                                                                                                                                                                                                                  v255 =
                                                                                                                                                                                                                      v251 ∧
                                                                                                                                                                                                                    w252 =
                                                                                                                                                                                                                      w252) ∧
                                                                                                                                                                                                          isK
                                                                                                                                                                                                            IntKind.i64
                                                                                                                                                                                                            v251
                                                                                                                                                                                                            fun
                                                                                                                                                                                                              i256 =>
                                                                                                                                                                                                            (∀
                                                                                                                                                                                                                (w257 :
                                                                                                                                                                                                                  World),
                                                                                                                                                                                                                u198
                                                                                                                                                                                                                    w257 →
                                                                                                                                                                                                                  Value.int
                                                                                                                                                                                                                        IntKind.i64
                                                                                                                                                                                                                        i249 =
                                                                                                                                                                                                                      Value.int
                                                                                                                                                                                                                        IntKind.i64
                                                                                                                                                                                                                        i249 ∧
                                                                                                                                                                                                                    w257 =
                                                                                                                                                                                                                      w257) ∧
                                                                                                                                                                                                              (∀
                                                                                                                                                                                                                  (w259 :
                                                                                                                                                                                                                    World),
                                                                                                                                                                                                                  u198
                                                                                                                                                                                                                      w259 →
                                                                                                                                                                                                                    Value.int
                                                                                                                                                                                                                          IntKind.i64
                                                                                                                                                                                                                          i256 =
                                                                                                                                                                                                                        Value.int
                                                                                                                                                                                                                          IntKind.i64
                                                                                                                                                                                                                          i256 ∧
                                                                                                                                                                                                                      w259 =
                                                                                                                                                                                                                        w259) ∧
                                                                                                                                                                                                                br
                                                                                                                                                                                                                  (decide
                                                                                                                                                                                                                    (i256 =
                                                                                                                                                                                                                      (0 :
                                                                                                                                                                                                                        Int)))
                                                                                                                                                                                                                  (br
                                                                                                                                                                                                                    (decide
                                                                                                                                                                                                                      (i249 =
                                                                                                                                                                                                                        i134))
                                                                                                                                                                                                                    (br
                                                                                                                                                                                                                      (decide
                                                                                                                                                                                                                        ((0 :
                                                                                                                                                                                                                            Int) <
                                                                                                                                                                                                                          i134))
                                                                                                                                                                                                                      (isSl
                                                                                                                                                                                                                        (u70
                                                                                                                                                                                                                          (5 :
                                                                                                                                                                                                                            Nat))
                                                                                                                                                                                                                        fun
                                                                                                                                                                                                                          o261
                                                                                                                                                                                                                          n262
                                                                                                                                                                                                                          n263 =>
                                                                                                                                                                                                                        isK
                                                                                                                                                                                                                          IntKind.i64
                                                                                                                                                                                                                          (u149
                                                                                                                                                                                                                            (14 :
                                                                                                                                                                                                                              Nat))
                                                                                                                                                                                                                          fun
                                                                                                                                                                                                                            i264 =>
                                                                                                                                                                                                                          rd
                                                                                                                                                                                                                            o261
                                                                                                                                                                                                                            fun
                                                                                                                                                                                                                              a265 =>
                                                                                                                                                                                                                            ((0 :
                                                                                                                                                                                                                                    Int) ≤
                                                                                                                                                                                                                                  i264 ∧
                                                                                                                                                                                                                                i264 <
                                                                                                                                                                                                                                  (↑n262 :
                                                                                                                                                                                                                                    Int)) ∧
                                                                                                                                                                                                                              rd
                                                                                                                                                                                                                                (World.cell?
                                                                                                                                                                                                                                  (World.drew
                                                                                                                                                                                                                                    w240)
                                                                                                                                                                                                                                  (Addr.add
                                                                                                                                                                                                                                    (Addr.add
                                                                                                                                                                                                                                      a265
                                                                                                                                                                                                                                      (Int.toNat
                                                                                                                                                                                                                                          i264 *
                                                                                                                                                                                                                                        (4 :
                                                                                                                                                                                                                                          Nat)))
                                                                                                                                                                                                                                    (1 :
                                                                                                                                                                                                                                      Nat)))
                                                                                                                                                                                                                                fun
                                                                                                                                                                                                                                  v266 =>
                                                                                                                                                                                                                                isK
                                                                                                                                                                                                                                  IntKind.i64
                                                                                                                                                                                                                                  v266
                                                                                                                                                                                                                                  fun
                                                                                                                                                                                                                                    i267 =>
                                                                                                                                                                                                                                  isSl
                                                                                                                                                                                                                                    (u70
                                                                                                                                                                                                                                      (5 :
                                                                                                                                                                                                                                        Nat))
                                                                                                                                                                                                                                    fun
                                                                                                                                                                                                                                      o268
                                                                                                                                                                                                                                      n269
                                                                                                                                                                                                                                      n270 =>
                                                                                                                                                                                                                                    isK
                                                                                                                                                                                                                                      IntKind.i64
                                                                                                                                                                                                                                      (u75
                                                                                                                                                                                                                                        (9 :
                                                                                                                                                                                                                                          Nat))
                                                                                                                                                                                                                                      fun
                                                                                                                                                                                                                                        i271 =>
                                                                                                                                                                                                                                      rd
                                                                                                                                                                                                                                        o268
                                                                                                                                                                                                                                        fun
                                                                                                                                                                                                                                          a272 =>
                                                                                                                                                                                                                                        ((0 :
                                                                                                                                                                                                                                                Int) ≤
                                                                                                                                                                                                                                              i271 ∧
                                                                                                                                                                                                                                            i271 <
                                                                                                                                                                                                                                              (↑n269 :
                                                                                                                                                                                                                                                Int)) ∧
                                                                                                                                                                                                                                          rd
                                                                                                                                                                                                                                            (World.cell?
                                                                                                                                                                                                                                              (World.drew
                                                                                                                                                                                                                                                w240)
                                                                                                                                                                                                                                              (Addr.add
                                                                                                                                                                                                                                                (Addr.add
                                                                                                                                                                                                                                                  a272
                                                                                                                                                                                                                                                  (Int.toNat
                                                                                                                                                                                                                                                      i271 *
                                                                                                                                                                                                                                                    (4 :
                                                                                                                                                                                                                                                      Nat)))
                                                                                                                                                                                                                                                (1 :
                                                                                                                                                                                                                                                  Nat)))
                                                                                                                                                                                                                                            fun
                                                                                                                                                                                                                                              v273 =>
                                                                                                                                                                                                                                            isK
                                                                                                                                                                                                                                              IntKind.i64
                                                                                                                                                                                                                                              v273
                                                                                                                                                                                                                                              fun
                                                                                                                                                                                                                                                i274 =>
                                                                                                                                                                                                                                              br
                                                                                                                                                                                                                                                (!decide
                                                                                                                                                                                                                                                    (i267 =
                                                                                                                                                                                                                                                      i274))
                                                                                                                                                                                                                                                (isK
                                                                                                                                                                                                                                                  IntKind.i64
                                                                                                                                                                                                                                                  (u149
                                                                                                                                                                                                                                                    (12 :
                                                                                                                                                                                                                                                      Nat))
                                                                                                                                                                                                                                                  fun
                                                                                                                                                                                                                                                    i275 =>
                                                                                                                                                                                                                                                  u156
                                                                                                                                                                                                                                                    (alist
                                                                                                                                                                                                                                                      [((12 :
                                                                                                                                                                                                                                                            Nat),
                                                                                                                                                                                                                                                          Value.int
                                                                                                                                                                                                                                                            IntKind.i64
                                                                                                                                                                                                                                                            (IntKind.wrap
                                                                                                                                                                                                                                                              IntKind.i64
                                                                                                                                                                                                                                                              (i275 +
                                                                                                                                                                                                                                                                (1 :
                                                                                                                                                                                                                                                                  Int)))),
                                                                                                                                                                                                                                                        ((13 :
                                                                                                                                                                                                                                                            Nat),
                                                                                                                                                                                                                                                          u195
                                                                                                                                                                                                                                                            (13 :
                                                                                                                                                                                                                                                              Nat))])
                                                                                                                                                                                                                                                    (World.drew
                                                                                                                                                                                                                                                      w240))
                                                                                                                                                                                                                                                (isSl
                                                                                                                                                                                                                                                  (u70
                                                                                                                                                                                                                                                    (5 :
                                                                                                                                                                                                                                                      Nat))
                                                                                                                                                                                                                                                  fun
                                                                                                                                                                                                                                                    o276
                                                                                                                                                                                                                                                    n277
                                                                                                                                                                                                                                                    n278 =>
                                                                                                                                                                                                                                                  isK
                                                                                                                                                                                                                                                    IntKind.i64
                                                                                                                                                                                                                                                    (u149
                                                                                                                                                                                                                                                      (14 :
                                                                                                                                                                                                                                                        Nat))
                                                                                                                                                                                                                                                    fun
                                                                                                                                                                                                                                                      i279 =>
                                                                                                                                                                                                                                                    rd
                                                                                                                                                                                                                                                      o276
                                                                                                                                                                                                                                                      fun
                                                                                                                                                                                                                                                        a280 =>
                                                                                                                                                                                                                                                      ((0 :
                                                                                                                                                                                                                                                              Int) ≤
                                                                                                                                                                                                                                                            i279 ∧
                                                                                                                                                                                                                                                          i279 <
                                                                                                                                                                                                                                                            (↑n277 :
                                                                                                                                                                                                                                                              Int)) ∧
                                                                                                                                                                                                                                                        rd
                                                                                                                                                                                                                                                          (World.cell?
                                                                                                                                                                                                                                                            (World.drew
                                                                                                                                                                                                                                                              w240)
                                                                                                                                                                                                                                                            (Addr.add
                                                                                                                                                                                                                                                              (Addr.add
                                                                                                                                                                                                                                                                a280
                                                                                                                                                                                                                                                                (Int.toNat
                                                                                                                                                                                                                                                                    i279 *
                                                                                                                                                                                                                                                                  (4 :
                                                                                                                                                                                                                                                                    Nat)))
                                                                                                                                                                                                                                                              (2 :
                                                                                                                                                                                                                                                                Nat)))
                                                                                                                                                                                                                                                          fun
                                                                                                                                                                                                                                                            v281 =>
                                                                                                                                                                                                                                                          isK
                                                                                                                                                                                                                                                            IntKind.u16
                                                                                                                                                                                                                                                            v281
                                                                                                                                                                                                                                                            fun
                                                                                                                                                                                                                                                              i282 =>
                                                                                                                                                                                                                                                            isSl
                                                                                                                                                                                                                                                              (u70
                                                                                                                                                                                                                                                                (5 :
                                                                                                                                                                                                                                                                  Nat))
                                                                                                                                                                                                                                                              fun
                                                                                                                                                                                                                                                                o283
                                                                                                                                                                                                                                                                n284
                                                                                                                                                                                                                                                                n285 =>
                                                                                                                                                                                                                                                              isK
                                                                                                                                                                                                                                                                IntKind.i64
                                                                                                                                                                                                                                                                (u75
                                                                                                                                                                                                                                                                  (9 :
                                                                                                                                                                                                                                                                    Nat))
                                                                                                                                                                                                                                                                fun
                                                                                                                                                                                                                                                                  i286 =>
                                                                                                                                                                                                                                                                rd
                                                                                                                                                                                                                                                                  o283
                                                                                                                                                                                                                                                                  fun
                                                                                                                                                                                                                                                                    a287 =>
                                                                                                                                                                                                                                                                  ((0 :
                                                                                                                                                                                                                                                                          Int) ≤
                                                                                                                                                                                                                                                                        i286 ∧
                                                                                                                                                                                                                                                                      i286 <
                                                                                                                                                                                                                                                                        (↑n284 :
                                                                                                                                                                                                                                                                          Int)) ∧
                                                                                                                                                                                                                                                                    rd
                                                                                                                                                                                                                                                                      (World.cell?
                                                                                                                                                                                                                                                                        (World.drew
                                                                                                                                                                                                                                                                          w240)
                                                                                                                                                                                                                                                                        (Addr.add
                                                                                                                                                                                                                                                                          (Addr.add
                                                                                                                                                                                                                                                                            a287
                                                                                                                                                                                                                                                                            (Int.toNat
                                                                                                                                                                                                                                                                                i286 *
                                                                                                                                                                                                                                                                              (4 :
                                                                                                                                                                                                                                                                                Nat)))
                                                                                                                                                                                                                                                                          (2 :
                                                                                                                                                                                                                                                                            Nat)))
                                                                                                                                                                                                                                                                      fun
                                                                                                                                                                                                                                                                        v288 =>
                                                                                                                                                                                                                                                                      isK
                                                                                                                                                                                                                                                                        IntKind.u16
                                                                                                                                                                                                                                                                        v288
                                                                                                                                                                                                                                                                        fun
                                                                                                                                                                                                                                                                          i289 =>
                                                                                                                                                                                                                                                                        br
                                                                                                                                                                                                                                                                          (!decide
                                                                                                                                                                                                                                                                              (i282 =
                                                                                                                                                                                                                                                                                i289))
                                                                                                                                                                                                                                                                          (isK
                                                                                                                                                                                                                                                                            IntKind.i64
                                                                                                                                                                                                                                                                            (u149
                                                                                                                                                                                                                                                                              (12 :
                                                                                                                                                                                                                                                                                Nat))
                                                                                                                                                                                                                                                                            fun
                                                                                                                                                                                                                                                                              i290 =>
                                                                                                                                                                                                                                                                            u156
                                                                                                                                                                                                                                                                              (alist
                                                                                                                                                                                                                                                                                [((12 :
                                                                                                                                                                                                                                                                                      Nat),
                                                                                                                                                                                                                                                                                    Value.int
                                                                                                                                                                                                                                                                                      IntKind.i64
                                                                                                                                                                                                                                                                                      (IntKind.wrap
                                                                                                                                                                                                                                                                                        IntKind.i64
                                                                                                                                                                                                                                                                                        (i290 +
                                                                                                                                                                                                                                                                                          (1 :
                                                                                                                                                                                                                                                                                            Int)))),
                                                                                                                                                                                                                                                                                  ((13 :
                                                                                                                                                                                                                                                                                      Nat),
                                                                                                                                                                                                                                                                                    u195
                                                                                                                                                                                                                                                                                      (13 :
                                                                                                                                                                                                                                                                                        Nat))])
                                                                                                                                                                                                                                                                              (World.drew
                                                                                                                                                                                                                                                                                w240))
                                                                                                                                                                                                                                                                          (u156
                                                                                                                                                                                                                                                                            (alist
                                                                                                                                                                                                                                                                              [((12 :
                                                                                                                                                                                                                                                                                    Nat),
                                                                                                                                                                                                                                                                                  u149
                                                                                                                                                                                                                                                                                    (12 :
                                                                                                                                                                                                                                                                                      Nat)),
                                                                                                                                                                                                                                                                                ((13 :
                                                                                                                                                                                                                                                                                    Nat),
                                                                                                                                                                                                                                                                                  u195
                                                                                                                                                                                                                                                                                    (13 :
                                                                                                                                                                                                                                                                                      Nat))])
                                                                                                                                                                                                                                                                            (World.drew
                                                                                                                                                                                                                                                                              w240))))
                                                                                                                                                                                                                      (u156
                                                                                                                                                                                                                        (alist
                                                                                                                                                                                                                          [((12 :
                                                                                                                                                                                                                                Nat),
                                                                                                                                                                                                                              u149
                                                                                                                                                                                                                                (12 :
                                                                                                                                                                                                                                  Nat)),
                                                                                                                                                                                                                            ((13 :
                                                                                                                                                                                                                                Nat),
                                                                                                                                                                                                                              u195
                                                                                                                                                                                                                                (13 :
                                                                                                                                                                                                                                  Nat))])
                                                                                                                                                                                                                        (World.drew
                                                                                                                                                                                                                          w240)))
                                                                                                                                                                                                                    (u156
                                                                                                                                                                                                                      (alist
                                                                                                                                                                                                                        [((12 :
                                                                                                                                                                                                                              Nat),
                                                                                                                                                                                                                            u149
                                                                                                                                                                                                                              (12 :
                                                                                                                                                                                                                                Nat)),
                                                                                                                                                                                                                          ((13 :
                                                                                                                                                                                                                              Nat),
                                                                                                                                                                                                                            u195
                                                                                                                                                                                                                              (13 :
                                                                                                                                                                                                                                Nat))])
                                                                                                                                                                                                                      (World.drew
                                                                                                                                                                                                                        w240)))
                                                                                                                                                                                                                  (u156
                                                                                                                                                                                                                    (alist
                                                                                                                                                                                                                      [((12 :
                                                                                                                                                                                                                            Nat),
                                                                                                                                                                                                                          u149
                                                                                                                                                                                                                            (12 :
                                                                                                                                                                                                                              Nat)),
                                                                                                                                                                                                                        ((13 :
                                                                                                                                                                                                                            Nat),
                                                                                                                                                                                                                          u195
                                                                                                                                                                                                                            (13 :
                                                                                                                                                                                                                              Nat))])
                                                                                                                                                                                                                    (World.drew
                                                                                                                                                                                                                      w240)))
                                                                                                                              fun u291 =>
                                                                                                                              ∀ (u292 : Nat → Value) (w293 : World),
                                                                                                                                u291
                                                                                                                                    (alist
                                                                                                                                      [((12 : Nat), u292 (12 : Nat)),
                                                                                                                                        ((13 : Nat), u292 (13 : Nat))])
                                                                                                                                    w293 →
                                                                                                                                  isK IntKind.i64 (u149 (14 : Nat)) fun i295 =>
                                                                                                                                    again u147 u148
                                                                                                                                      (alist
                                                                                                                                        [((12 : Nat), u292 (12 : Nat)),
                                                                                                                                          ((13 : Nat), u292 (13 : Nat)),
                                                                                                                                          ((14 : Nat),
                                                                                                                                            Value.int IntKind.i64
                                                                                                                                              (IntKind.wrap IntKind.i64
                                                                                                                                                (i295 + (1 : Int))))])
                                                                                                                                      w293
                                                                                                                                      (alist
                                                                                                                                        [((12 : Nat), u149 (12 : Nat)),
                                                                                                                                          ((13 : Nat), u149 (13 : Nat)),
                                                                                                                                          ((14 : Nat), u149 (14 : Nat))])
                                                                                                                                      w150)
                                                                                                                            (u146
                                                                                                                              (alist
                                                                                                                                [((12 : Nat), u149 (12 : Nat)),
                                                                                                                                  ((13 : Nat), u149 (13 : Nat))])
                                                                                                                              w150))
                                                                                                              fun u296 =>
                                                                                                              ∀ (u297 : Nat → Value) (w298 : World),
                                                                                                                u296
                                                                                                                    (alist
                                                                                                                      [((12 : Nat), u297 (12 : Nat)),
                                                                                                                        ((13 : Nat), u297 (13 : Nat))])
                                                                                                                    w298 →
                                                                                                                  isK IntKind.i64 (u297 (12 : Nat)) fun i300 =>
                                                                                                                    br (decide ((0 : Int) < i300)) (R (Value.bool false) w298)
                                                                                                                      (isB (u297 (13 : Nat)) fun t301 =>
                                                                                                                        br (!t301) (R (Value.bool false) w298)
                                                                                                                          (u82 (alist []) w298))))
                              fun u302 =>
                              ∀ (u303 : Nat → Value) (w304 : World),
                                u302 (alist []) w304 →
                                  isK IntKind.i64 (u75 (9 : Nat)) fun i306 =>
                                    again u73 u74 (alist [((9 : Nat), Value.int IntKind.i64 (IntKind.wrap IntKind.i64 (i306 + (1 : Int))))]) w304
                                      (alist [((9 : Nat), u75 (9 : Nat))]) w76)
                            (br t2
                              (callV Try.prog (10 : Nat) [Value.pointer o5] w76 fun v307 w308 =>
                                isK IntKind.i64 v307 fun i309 => isSl (u70 (5 : Nat)) fun o310 n311 n312 => R (Value.bool (decide (i309 ≤ (↑n311 : Int)))) w308)
                              (R (Value.bool false) w76)))) :
  callV Try.prog 4 [Value.slice ap an ac] w R :=
  vc_of hm ⟨fun n => match n with | 8 => true | 16 => true | 18 => true | 20 => true | 27 => true | 29 => true | 30 => true | 32 => true | 33 => true | _ => false, fun n => match n with | 21 => .take 0 (.take 1 (.take 2 (.take 3 (.take 4 (.take 5 (.take 6 (.take 7 (.take 8 (.take 9 (.take 10 (.one 11 (.take 12 (.take 13 (.take 14 (.take 15 (.take 16 (.done))))))))))))))))) | 28 => .take 0 (.take 1 (.take 2 (.take 3 (.take 4 (.take 5 (.take 6 (.take 7 (.take 8 (.take 9 (.take 10 (.take 11 (.take 12 (.take 13 (.take 14 (.take 15 (.take 16 (.take 17 (.take 18 (.take 19 (.take 20 (.take 21 (.take 22 (.take 23 (.done)))))))))))))))))))))))) | 30 => .take 0 (.take 1 (.take 2 (.take 3 (.take 4 (.take 5 (.take 6 (.take 7 (.take 8 (.take 9 (.take 10 (.one 11 (.take 12 (.take 13 (.take 14 (.take 15 (.take 16 (.done))))))))))))))))) | 31 => .take 0 (.take 1 (.take 2 (.take 3 (.take 4 (.take 5 (.take 6 (.take 7 (.take 8 (.take 9 (.take 10 (.take 11 (.take 12 (.take 13 (.take 14 (.take 15 (.take 16 (.take 17 (.take 18 (.take 19 (.take 20 (.take 21 (.take 22 (.take 23 (.take 24 (.take 25 (.take 26 (.take 27 (.take 28 (.take 29 (.take 30 (.take 31 (.take 32 (.take 33 (.take 34 (.take 35 (.take 36 (.done))))))))))))))))))))))))))))))))))))) | _ => .done, fun n => match n with | 18 => [5] | 7 => [5, 6] | 8 => [5] | 16 => [8] | 19 => [9] | 20 => [] | 33 => [12, 13] | 26 => [12, 13, 14] | 27 => [12, 13] | 30 => [13] | _ => []⟩ Try.func4 ent4 (by kernel_rfl) h

end Go.Proofs.Ytfdbojnikoonbaa
