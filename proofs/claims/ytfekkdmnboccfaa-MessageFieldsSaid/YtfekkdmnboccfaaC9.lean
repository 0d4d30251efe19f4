/- The conditions of functions, written out: printed by a small program (VCDev.lean, vcgen.sh).  Conditions: none. -/
import Derived.Test.YtfekkdmnboccfaaTab
namespace Go.Proofs.Ytfekkdmnboccfaa
set_option linter.unusedSimpArgs false
set_option linter.unusedVariables false
open Go VC
theorem vc7 (a0 : Int) (a1 : Int) (a20 : Int) (a21 : Int) (a22 : Int) (a23 : Int) (a24 : Int) (a3 : Int) (a4 : Int) (a5 : Int) (a60 : Int) (a61 : Int) (a62 : Int) (a7 : Int) (a80 : Int) (a81 : Int) (a82 : Int) (a90 : Int) (a91 : Int) (a92 : Int) (a10 : Int) (a11 : Int) (a12p : Option Addr) (a12n : Nat) (a12c : Nat) (b : Int) (c : Int) (w : World) (R : Value → World → Prop)
  (h : allocC w
  (Obj.cells
    #[Value.int IntKind.i64 a0, Value.int IntKind.u16 a1, Value.int IntKind.u16 a20, Value.int IntKind.u8 a21, Value.int IntKind.i8 a22, Value.int IntKind.i8 a23,
      Value.int IntKind.i64 a24, Value.int IntKind.u16 a3, Value.int IntKind.i64 a4, Value.int IntKind.i64 a5, Value.int IntKind.i64 a60, Value.int IntKind.i64 a61,
      Value.int IntKind.i64 a62, Value.int IntKind.i64 a7, Value.int IntKind.i64 a80, Value.int IntKind.i64 a81, Value.int IntKind.i64 a82, Value.int IntKind.i64 a90,
      Value.int IntKind.i64 a91, Value.int IntKind.i64 a92, Value.int IntKind.u32 a10, Value.int IntKind.u32 a11, Value.slice a12p a12n a12c]
    (40 : Nat))
  fun n0 w1 =>
  callV Try.prog (12 : Nat) [] w1 fun v2 w3 =>
    isB v2 fun t4 =>
      rd (cellsAt w3 { block := n0, off := (0 : Nat) : Addr } (23 : Nat)) fun l5 =>
        callV Try.prog (16 : Nat) [Value.agg (List.toArray l5)] w3 fun v6 w7 =>
          isB v6 fun t8 =>
            br (!t8) (R (Value.bool t4) w7)
              (runs Try.prog
                (Instr.buildSlice (49 : Nat) (10 : Nat)
                  #[((0 : Nat), Value.string { data := #[] : ByteArray }), ((1 : Nat), Value.string { data := #[] : ByteArray }),
                    ((2 : Nat), Value.string { data := #[(67 : UInt8)] : ByteArray }),
                    ((3 : Nat), Value.string { data := #[(112 : UInt8), (100 : UInt8), (115 : UInt8)] : ByteArray }), ((4 : Nat), Value.string { data := #[] : ByteArray }),
                    ((5 : Nat), Value.string { data := #[(73 : UInt8)] : ByteArray }),
                    ((6 : Nat), Value.string { data := #[(83 : UInt8), (86 : UInt8), (87 : UInt8)] : ByteArray }),
                    ((7 : Nat), Value.string { data := #[(112 : UInt8), (73 : UInt8)] : ByteArray }),
                    ((8 : Nat), Value.string { data := #[(112 : UInt8), (121 : UInt8)] : ByteArray }),
                    ((9 : Nat), Value.string { data := #[(84 : UInt8), (116 : UInt8), (66 : UInt8)] : ByteArray })])
                w7 fun v9 w10 =>
                isSl v9 fun o11 n12 n13 =>
                  rd (World.cell? w10 { block := n0, off := (0 : Nat) : Addr }) fun v14 =>
                    isK IntKind.i64 v14 fun i15 =>
                      rd o11 fun a16 =>
                        ((0 : Int) ≤ i15 ∧ i15 < (↑n12 : Int)) ∧
                          rd (World.cell? w10 (Addr.add a16 (Int.toNat i15 * (1 : Nat)))) fun v17 =>
                            isStr v17 fun x18 =>
                              rd (cellsAt w10 { block := n0, off := (0 : Nat) : Addr } (23 : Nat)) fun l19 =>
                                allocC w10
                                  (Obj.cells
                                    #[Value.int IntKind.i64 (0 : Int), Value.int IntKind.u16 (0 : Int), Value.int IntKind.u16 (0 : Int), Value.int IntKind.u8 (0 : Int),
                                      Value.int IntKind.i8 (0 : Int), Value.int IntKind.i8 (0 : Int), Value.int IntKind.i64 (0 : Int), Value.int IntKind.u16 (0 : Int),
                                      Value.int IntKind.i64 (0 : Int), Value.int IntKind.i64 (0 : Int), Value.int IntKind.i64 (0 : Int), Value.int IntKind.i64 (0 : Int),
                                      Value.int IntKind.i64 (0 : Int), Value.int IntKind.i64 (0 : Int), Value.int IntKind.i64 (0 : Int), Value.int IntKind.i64 (0 : Int),
                                      Value.int IntKind.i64 (0 : Int), Value.int IntKind.i64 (0 : Int), Value.int IntKind.i64 (0 : Int), Value.int IntKind.i64 (0 : Int),
                                      Value.int IntKind.u32 (0 : Int), Value.int IntKind.u32 (0 : Int), Value.slice none (0 : Nat) (0 : Nat)]
                                    (40 : Nat))
                                  fun n20 w21 =>
                                  rd (gd (List.length l19 == (23 : Nat))) fun _x =>
                                    stC w21 { block := n20, off := (0 : Nat) : Addr } l19 fun w22 =>
                                      cutC
                                        (fun u23 =>
                                          runs Try.prog
                                            (Instr.index (9 : Nat)
                                              (Value.string
                                                {
                                                  data :=
                                                    #[(83 : UInt8), (67 : UInt8), (112 : UInt8), (73 : UInt8), (100 : UInt8), (115 : UInt8), (121 : UInt8), (86 : UInt8),
                                                      (87 : UInt8), (84 : UInt8), (116 : UInt8), (66 : UInt8)] :
                                                  ByteArray })
                                              (Value.int IntKind.i64 (Int.tmod (andI IntKind.i64 b (65535 : Int)) (12 : Int))))
                                            w22 fun v24 w25 =>
                                            isK IntKind.u8 v24 fun i26 =>
                                              br (decide (i26 = (83 : Int)))
                                                (stC w25 { block := n20, off := (1 : Nat) : Addr } [Value.int IntKind.u16 (IntKind.wrap IntKind.u16 c)] fun w27 =>
                                                  rd (World.cell? w27 { block := n20, off := (1 : Nat) : Addr }) fun v28 =>
                                                    isK IntKind.u16 v28 fun i29 => u23 (alist [((12 : Nat), Value.bool (decide (i29 = (0 : Int))))]) w27)
                                                (br (decide (i26 = (67 : Int)))
                                                  (stC w25 { block := n20, off := (6 : Nat) : Addr } [Value.int IntKind.i64 c] fun w30 =>
                                                    rd (cellsAt w30 { block := n20, off := (2 : Nat) : Addr } (5 : Nat)) fun l31 =>
                                                      rd
                                                        (Option.map Value.bool
                                                          (eqL [(0 : Nat), (1 : Nat), (2 : Nat), (3 : Nat), (4 : Nat)] l31
                                                            [Value.int IntKind.u16 (0 : Int), Value.int IntKind.u8 (0 : Int), Value.int IntKind.i8 (0 : Int),
                                                              Value.int IntKind.i8 (0 : Int), Value.int IntKind.i64 (0 : Int)]))
                                                        fun v32 => isB v32 fun t33 => u23 (alist [((12 : Nat), Value.bool t33)]) w30)
                                                  (br (decide (i26 = (112 : Int)))
                                                    (stC w25 { block := n20, off := (7 : Nat) : Addr } [Value.int IntKind.u16 (IntKind.wrap IntKind.u16 c)] fun w34 =>
                                                      rd (World.cell? w34 { block := n20, off := (7 : Nat) : Addr }) fun v35 =>
                                                        isK IntKind.u16 v35 fun i36 => u23 (alist [((12 : Nat), Value.bool (decide (i36 = (0 : Int))))]) w34)
                                                    (br (decide (i26 = (73 : Int)))
                                                      (stC w25 { block := n20, off := (8 : Nat) : Addr } [Value.int IntKind.i64 c] fun w37 =>
                                                        u23 (alist [((12 : Nat), Value.bool (decide (c = (0 : Int))))]) w37)
                                                      (br (decide (i26 = (100 : Int)))
                                                        (stC w25 { block := n20, off := (11 : Nat) : Addr } [Value.int IntKind.i64 c] fun w38 =>
                                                          rd (cellsAt w38 { block := n20, off := (10 : Nat) : Addr } (3 : Nat)) fun l39 =>
                                                            rd
                                                              (Option.map Value.bool
                                                                (eqL [(0 : Nat), (1 : Nat), (2 : Nat)] l39
                                                                  [Value.int IntKind.i64 (0 : Int), Value.int IntKind.i64 (0 : Int), Value.int IntKind.i64 (0 : Int)]))
                                                              fun v40 => isB v40 fun t41 => u23 (alist [((12 : Nat), Value.bool t41)]) w38)
                                                        (br (decide (i26 = (115 : Int)))
                                                          (stC w25 { block := n20, off := (9 : Nat) : Addr } [Value.int IntKind.i64 c] fun w42 =>
                                                            u23 (alist [((12 : Nat), Value.bool (decide (c = (0 : Int))))]) w42)
                                                          (br (decide (i26 = (121 : Int)))
                                                            (stC w25 { block := n20, off := (13 : Nat) : Addr } [Value.int IntKind.i64 c] fun w43 =>
                                                              u23 (alist [((12 : Nat), Value.bool (decide (c = (0 : Int))))]) w43)
                                                            (br (decide (i26 = (86 : Int)))
                                                              (stC w25 { block := n20, off := (16 : Nat) : Addr } [Value.int IntKind.i64 c] fun w44 =>
                                                                rd (cellsAt w44 { block := n20, off := (14 : Nat) : Addr } (3 : Nat)) fun l45 =>
                                                                  rd
                                                                    (Option.map Value.bool
                                                                      (eqL [(0 : Nat), (1 : Nat), (2 : Nat)] l45
                                                                        [Value.int IntKind.i64 (0 : Int), Value.int IntKind.i64 (0 : Int), Value.int IntKind.i64 (0 : Int)]))
                                                                    fun v46 => isB v46 fun t47 => u23 (alist [((12 : Nat), Value.bool t47)]) w44)
                                                              (br (decide (i26 = (87 : Int)))
                                                                (stC w25 { block := n20, off := (17 : Nat) : Addr } [Value.int IntKind.i64 c] fun w48 =>
                                                                  rd (cellsAt w48 { block := n20, off := (17 : Nat) : Addr } (3 : Nat)) fun l49 =>
                                                                    rd
                                                                      (Option.map Value.bool
                                                                        (eqL [(0 : Nat), (1 : Nat), (2 : Nat)] l49
                                                                          [Value.int IntKind.i64 (0 : Int), Value.int IntKind.i64 (0 : Int), Value.int IntKind.i64 (0 : Int)]))
                                                                      fun v50 => isB v50 fun t51 => u23 (alist [((12 : Nat), Value.bool t51)]) w48)
                                                                (br (decide (i26 = (84 : Int)))
                                                                  (stC w25 { block := n20, off := (20 : Nat) : Addr } [Value.int IntKind.u32 (IntKind.wrap IntKind.u32 c)]
                                                                    fun w52 =>
                                                                    rd (World.cell? w52 { block := n20, off := (20 : Nat) : Addr }) fun v53 =>
                                                                      isK IntKind.u32 v53 fun i54 => u23 (alist [((12 : Nat), Value.bool (decide (i54 = (0 : Int))))]) w52)
                                                                  (br (decide (i26 = (116 : Int)))
                                                                    (stC w25 { block := n20, off := (21 : Nat) : Addr } [Value.int IntKind.u32 (IntKind.wrap IntKind.u32 c)]
                                                                      fun w55 =>
                                                                      rd (World.cell? w55 { block := n20, off := (21 : Nat) : Addr }) fun v56 =>
                                                                        isK IntKind.u32 v56 fun i57 => u23 (alist [((12 : Nat), Value.bool (decide (i57 = (0 : Int))))]) w55)
                                                                    (br (decide (i26 = (66 : Int)))
                                                                      (runs Try.prog
                                                                        (Instr.makeSlice (25 : Nat) (Value.int IntKind.i64 (andI IntKind.i64 c (1023 : Int)))
                                                                          (Value.int IntKind.i64 (andI IntKind.i64 c (1023 : Int))))
                                                                        w25 fun v58 w59 =>
                                                                        isSl v58 fun o60 n61 n62 =>
                                                                          stC w59 { block := n20, off := (22 : Nat) : Addr } [Value.slice o60 n61 n62] fun w63 =>
                                                                            u23 (alist [((12 : Nat), Value.bool (decide (andI IntKind.i64 c (1023 : Int) = (0 : Int))))]) w63)
                                                                      (u23 (alist [((12 : Nat), Value.bool true)]) w25)))))))))))))
                                        fun u64 =>
                                        ∀ (u65 : Nat → Value) (w66 : World),
                                          u64 (alist [((12 : Nat), u65 (12 : Nat))]) w66 →
                                            cutC
                                              (fun u68 =>
                                                loopC (alist [((13 : Nat), Value.bool false), ((14 : Nat), Value.int IntKind.i64 (0 : Int))]) w66 fun u69 u70 =>
                                                  ∀ (u71 : Nat → Value) (w72 : World),
                                                    u69 (alist [((13 : Nat), u71 (13 : Nat)), ((14 : Nat), u71 (14 : Nat))]) w72 →
                                                      isK IntKind.i64 (u71 (14 : Nat)) fun i74 =>
                                                        br (decide (i74 < (↑(ByteArray.size x18) : Int)))
                                                          (heldC (World.drew w72) fun u75 =>
                                                            (∀ (w76 : World), u75 w76 → u71 (13 : Nat) = u71 (13 : Nat) ∧ w76 = w76) ∧
                                                              isB (u71 (13 : Nat)) fun t78 =>
                                                                (∀ (w79 : World), u75 w79 → Value.bool t78 = Value.bool t78 ∧ w79 = w79) ∧
                                                                  br t78
                                                                    ((∀ (w81 : World), u75 w81 → Value.bool true = Value.bool true ∧ w81 = w81) ∧
                                                                      (∀ (w83 : World), u75 w83 → Value.bool true = Value.bool true ∧ w83 = w83) ∧
                                                                        isK IntKind.i64 (u71 (14 : Nat)) fun i85 =>
                                                                          again u69 u70
                                                                            (alist
                                                                              [((13 : Nat), Value.bool true),
                                                                                ((14 : Nat), Value.int IntKind.i64 (IntKind.wrap IntKind.i64 (i85 + (1 : Int))))])
                                                                            (World.drew w72) (alist [((13 : Nat), u71 (13 : Nat)), ((14 : Nat), u71 (14 : Nat))]) w72)
                                                                    ((∀ (w86 : World), u75 w86 → Value.string x18 = Value.string x18 ∧ w86 = w86) ∧
                                                                      (∀ (w88 : World), u75 w88 → u71 (14 : Nat) = u71 (14 : Nat) ∧ w88 = w88) ∧
                                                                        isK IntKind.i64 (u71 (14 : Nat)) fun i90 =>
                                                                          runs Try.prog (Instr.index (9 : Nat) (Value.string x18) (Value.int IntKind.i64 i90)) (World.drew w72)
                                                                            fun v91 w92 =>
                                                                            (∀ (w93 : World),
                                                                                u75 w93 →
                                                                                  runs Try.prog (Instr.index (9 : Nat) (Value.string x18) (Value.int IntKind.i64 i90)) w93
                                                                                    fun v95 w96 => v95 = v91 ∧ w96 = w93) ∧
                                                                              isK IntKind.u8 v91 fun i97 =>
                                                                                (∀ (w98 : World),
                                                                                    u75 w98 →
                                                                                      Value.string
                                                                                            {
                                                                                              data :=
                                                                                                #[(83 : UInt8), (67 : UInt8), (112 : UInt8), (73 : UInt8), (100 : UInt8),
                                                                                                  (115 : UInt8), (121 : UInt8), (86 : UInt8), (87 : UInt8), (84 : UInt8),
                                                                                                  (116 : UInt8), (66 : UInt8)] :
                                                                                              ByteArray } =
                                                                                          Value.string
                                                                                            {
                                                                                              data :=
                                                                                                #[(83 : UInt8), (67 : UInt8), (112 : UInt8), (73 : UInt8), (100 : UInt8),
                                                                                                  (115 : UInt8), (121 : UInt8), (86 : UInt8), (87 : UInt8), (84 : UInt8),
                                                                                                  (116 : UInt8), (66 : UInt8)] :
                                                                                              ByteArray } ∧
                                                                                        w98 = w98) ∧
                                                                                  (∀ (w100 : World),
                                                                                      u75 w100 →
                                                                                        Value.int IntKind.i64 (Int.tmod (andI IntKind.i64 b (65535 : Int)) (12 : Int)) =
                                                                                            Value.int IntKind.i64 (Int.tmod (andI IntKind.i64 b (65535 : Int)) (12 : Int)) ∧
                                                                                          w100 = w100) ∧
                                                                                    runs Try.prog
                                                                                      (Instr.index (9 : Nat)
                                                                                        (Value.string
                                                                                          {
                                                                                            data :=
                                                                                              #[(83 : UInt8), (67 : UInt8), (112 : UInt8), (73 : UInt8), (100 : UInt8),
                                                                                                (115 : UInt8), (121 : UInt8), (86 : UInt8), (87 : UInt8), (84 : UInt8),
                                                                                                (116 : UInt8), (66 : UInt8)] :
                                                                                            ByteArray })
                                                                                        (Value.int IntKind.i64 (Int.tmod (andI IntKind.i64 b (65535 : Int)) (12 : Int))))
                                                                                      (World.drew w72) fun v102 w103 =>
                                                                                      (∀ (w104 : World),
                                                                                          u75 w104 →
                                                                                            runs Try.prog
                                                                                              (Instr.index (9 : Nat)
                                                                                                (Value.string
                                                                                                  {
                                                                                                    data :=
                                                                                                      #[(83 : UInt8), (67 : UInt8), (112 : UInt8), (73 : UInt8), (100 : UInt8),
                                                                                                        (115 : UInt8), (121 : UInt8), (86 : UInt8), (87 : UInt8), (84 : UInt8),
                                                                                                        (116 : UInt8), (66 : UInt8)] :
                                                                                                    ByteArray })
                                                                                                (Value.int IntKind.i64 (Int.tmod (andI IntKind.i64 b (65535 : Int)) (12 : Int))))
                                                                                              w104 fun v106 w107 => v106 = v102 ∧ w107 = w104) ∧
                                                                                        isK IntKind.u8 v102 fun i108 =>
                                                                                          (∀ (w109 : World),
                                                                                              u75 w109 →
                                                                                                Value.bool (decide (i97 = i108)) = Value.bool (decide (i97 = i108)) ∧ w109 = w109) ∧
                                                                                            (∀ (w111 : World),
                                                                                                u75 w111 →
                                                                                                  Value.bool (decide (i97 = i108)) = Value.bool (decide (i97 = i108)) ∧
                                                                                                    w111 = w111) ∧
                                                                                              (∀ (w113 : World),
                                                                                                  u75 w113 →
                                                                                                    Value.bool (decide (i97 = i108)) = Value.bool (decide (i97 = i108)) ∧
                                                                                                      w113 = w113) ∧
                                                                                                isK IntKind.i64 (u71 (14 : Nat)) fun i115 =>
                                                                                                  again u69 u70
                                                                                                    (alist
                                                                                                      [((13 : Nat), Value.bool (decide (i97 = i108))),
                                                                                                        ((14 : Nat),
                                                                                                          Value.int IntKind.i64 (IntKind.wrap IntKind.i64 (i115 + (1 : Int))))])
                                                                                                    (World.drew w72)
                                                                                                    (alist [((13 : Nat), u71 (13 : Nat)), ((14 : Nat), u71 (14 : Nat))]) w72))
                                                          (u68 (alist [((13 : Nat), u71 (13 : Nat))]) w72))
                                              fun u116 =>
                                              ∀ (u117 : Nat → Value) (w118 : World),
                                                u116 (alist [((13 : Nat), u117 (13 : Nat))]) w118 →
                                                  cutC
                                                    (fun u120 =>
                                                      isB (u117 (13 : Nat)) fun t121 =>
                                                        br (!t121)
                                                          (br t4
                                                            (rd (cellsAt w118 { block := n20, off := (0 : Nat) : Addr } (23 : Nat)) fun l122 =>
                                                              callV Try.prog (16 : Nat) [Value.agg (List.toArray l122)] w118 fun v123 w124 =>
                                                                isB v123 fun t125 => isB (u65 (12 : Nat)) fun t126 => R (Value.bool (decide (t125 = t126))) w124)
                                                            (R (Value.bool false) w118))
                                                          (u120 (alist []) w118))
                                                    fun u127 =>
                                                    ∀ (u128 : Nat → Value) (w129 : World),
                                                      u127 (alist []) w129 →
                                                        cutC
                                                          (fun u131 =>
                                                            runs Try.prog
                                                              (Instr.index (9 : Nat)
                                                                (Value.string
                                                                  {
                                                                    data :=
                                                                      #[(83 : UInt8), (67 : UInt8), (112 : UInt8), (73 : UInt8), (100 : UInt8), (115 : UInt8), (121 : UInt8),
                                                                        (86 : UInt8), (87 : UInt8), (84 : UInt8), (116 : UInt8), (66 : UInt8)] :
                                                                    ByteArray })
                                                                (Value.int IntKind.i64 (Int.tmod (andI IntKind.i64 b (65535 : Int)) (12 : Int))))
                                                              w129 fun v132 w133 =>
                                                              isK IntKind.u8 v132 fun i134 =>
                                                                br (decide (i134 = (67 : Int)))
                                                                  (br (decide ((1 : Int) ≤ c)) (u131 (alist [((15 : Nat), Value.bool (decide (c ≤ (8 : Int))))]) w133)
                                                                    (u131 (alist [((15 : Nat), Value.bool false)]) w133))
                                                                  (br (decide (i134 = (73 : Int)))
                                                                    (br (decide ((1 : Int) ≤ c)) (u131 (alist [((15 : Nat), Value.bool (decide (c < (2147483648 : Int))))]) w133)
                                                                      (u131 (alist [((15 : Nat), Value.bool false)]) w133))
                                                                    (br (decide (i134 = (100 : Int)))
                                                                      (br (decide ((-65536 : Int) ≤ c)) (u131 (alist [((15 : Nat), Value.bool (decide (c ≤ (65536 : Int))))]) w133)
                                                                        (u131 (alist [((15 : Nat), Value.bool false)]) w133))
                                                                      (br (decide (i134 = (115 : Int)))
                                                                        (br (decide (c = (0 : Int))) (u131 (alist [((15 : Nat), Value.bool true)]) w133)
                                                                          (u131 (alist [((15 : Nat), Value.bool (decide (c = (1 : Int))))]) w133))
                                                                        (br (decide (i134 = (121 : Int)))
                                                                          (br (decide ((1 : Int) ≤ c)) (u131 (alist [((15 : Nat), Value.bool (decide (c ≤ (10 : Int))))]) w133)
                                                                            (u131 (alist [((15 : Nat), Value.bool false)]) w133))
                                                                          (br (decide (i134 = (86 : Int)))
                                                                            (br (decide ((-2147483648 : Int) ≤ c))
                                                                              (u131 (alist [((15 : Nat), Value.bool (decide (c < (2147483648 : Int))))]) w133)
                                                                              (u131 (alist [((15 : Nat), Value.bool false)]) w133))
                                                                            (br (decide (i134 = (87 : Int)))
                                                                              (br (decide ((-2147483648 : Int) ≤ c))
                                                                                (u131 (alist [((15 : Nat), Value.bool (decide (c < (2147483648 : Int))))]) w133)
                                                                                (u131 (alist [((15 : Nat), Value.bool false)]) w133))
                                                                              (u131 (alist [((15 : Nat), Value.bool true)]) w133))))))))
                                                          fun u135 =>
                                                          ∀ (u136 : Nat → Value) (w137 : World),
                                                            u135 (alist [((15 : Nat), u136 (15 : Nat))]) w137 →
                                                              br t4
                                                                (rd (cellsAt w137 { block := n20, off := (0 : Nat) : Addr } (23 : Nat)) fun l139 =>
                                                                  callV Try.prog (16 : Nat) [Value.agg (List.toArray l139)] w137 fun v140 w141 =>
                                                                    isB v140 fun t142 => isB (u136 (15 : Nat)) fun t143 => R (Value.bool (decide (t142 = t143))) w141)
                                                                (R (Value.bool false) w137))) :
  callV Try.prog 7 [Value.agg #[Value.int IntKind.i64 a0, Value.int IntKind.u16 a1, Value.int IntKind.u16 a20, Value.int IntKind.u8 a21, Value.int IntKind.i8 a22, Value.int IntKind.i8 a23, Value.int IntKind.i64 a24, Value.int IntKind.u16 a3, Value.int IntKind.i64 a4, Value.int IntKind.i64 a5, Value.int IntKind.i64 a60, Value.int IntKind.i64 a61, Value.int IntKind.i64 a62, Value.int IntKind.i64 a7, Value.int IntKind.i64 a80, Value.int IntKind.i64 a81, Value.int IntKind.i64 a82, Value.int IntKind.i64 a90, Value.int IntKind.i64 a91, Value.int IntKind.i64 a92, Value.int IntKind.u32 a10, Value.int IntKind.u32 a11, Value.slice a12p a12n a12c], Value.int IntKind.i64 b, Value.int IntKind.i64 c] w R :=
  vc_of hm ⟨fun n => match n with | 46 => true | 51 => true | 53 => true | 68 => true | _ => false, fun n => match n with | 50 => .take 0 (.take 1 (.take 2 (.take 3 (.take 4 (.take 5 (.take 6 (.take 7 (.take 8 (.take 9 (.take 10 (.done))))))))))) | _ => .done, fun n => match n with | 46 => [12] | 51 => [13] | 48 => [13, 14] | 53 => [] | 68 => [15] | _ => []⟩ Try.func7 ent7 (by kernel_rfl) h

end Go.Proofs.Ytfekkdmnboccfaa
