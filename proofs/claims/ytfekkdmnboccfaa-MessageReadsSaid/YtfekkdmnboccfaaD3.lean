/- The conditions of functions, written out: printed by a small program (VCDev.lean, vcgen.sh).  Conditions: none. -/
import Derived.Test.YtfekkdmnboccfaaTab
namespace Go.Proofs.Ytfekkdmnboccfaa
set_option linter.unusedSimpArgs false
set_option linter.unusedVariables false
open Go VC
theorem vc36 (a : Addr) (w : World) (R : Value → World → Prop)
  (h : allocC w
  (Obj.cells
    #[Value.int IntKind.i64 (0 : Int), Value.int IntKind.u16 (0 : Int), Value.int IntKind.u16 (0 : Int), Value.int IntKind.u8 (0 : Int), Value.int IntKind.i8 (0 : Int),
      Value.int IntKind.i8 (0 : Int), Value.int IntKind.i64 (0 : Int), Value.int IntKind.u16 (0 : Int), Value.int IntKind.i64 (0 : Int), Value.int IntKind.i64 (0 : Int),
      Value.int IntKind.i64 (0 : Int), Value.int IntKind.i64 (0 : Int), Value.int IntKind.i64 (0 : Int), Value.int IntKind.i64 (0 : Int), Value.int IntKind.i64 (0 : Int),
      Value.int IntKind.i64 (0 : Int), Value.int IntKind.i64 (0 : Int), Value.int IntKind.i64 (0 : Int), Value.int IntKind.i64 (0 : Int), Value.int IntKind.i64 (0 : Int),
      Value.int IntKind.u32 (0 : Int), Value.int IntKind.u32 (0 : Int), Value.slice none (0 : Nat) (0 : Nat)]
    (40 : Nat))
  fun n0 w1 =>
  allocC w1
    (Obj.cells
      #[Value.int IntKind.i64 (0 : Int), Value.int IntKind.u16 (0 : Int), Value.int IntKind.u16 (0 : Int), Value.int IntKind.u8 (0 : Int), Value.int IntKind.i8 (0 : Int),
        Value.int IntKind.i8 (0 : Int), Value.int IntKind.i64 (0 : Int), Value.int IntKind.u16 (0 : Int), Value.int IntKind.i64 (0 : Int), Value.int IntKind.i64 (0 : Int),
        Value.int IntKind.i64 (0 : Int), Value.int IntKind.i64 (0 : Int), Value.int IntKind.i64 (0 : Int), Value.int IntKind.i64 (0 : Int), Value.int IntKind.i64 (0 : Int),
        Value.int IntKind.i64 (0 : Int), Value.int IntKind.i64 (0 : Int), Value.int IntKind.i64 (0 : Int), Value.int IntKind.i64 (0 : Int), Value.int IntKind.i64 (0 : Int),
        Value.int IntKind.u32 (0 : Int), Value.int IntKind.u32 (0 : Int), Value.slice none (0 : Nat) (0 : Nat)]
      (40 : Nat))
    fun n2 w3 =>
    stC w3 { block := n2, off := (0 : Nat) : Addr }
      [Value.int IntKind.i64 (0 : Int), Value.int IntKind.u16 (0 : Int), Value.int IntKind.u16 (0 : Int), Value.int IntKind.u8 (0 : Int), Value.int IntKind.i8 (0 : Int),
        Value.int IntKind.i8 (0 : Int), Value.int IntKind.i64 (0 : Int), Value.int IntKind.u16 (0 : Int), Value.int IntKind.i64 (0 : Int), Value.int IntKind.i64 (0 : Int),
        Value.int IntKind.i64 (0 : Int), Value.int IntKind.i64 (0 : Int), Value.int IntKind.i64 (0 : Int), Value.int IntKind.i64 (0 : Int), Value.int IntKind.i64 (0 : Int),
        Value.int IntKind.i64 (0 : Int), Value.int IntKind.i64 (0 : Int), Value.int IntKind.i64 (0 : Int), Value.int IntKind.i64 (0 : Int), Value.int IntKind.i64 (0 : Int),
        Value.int IntKind.u32 (0 : Int), Value.int IntKind.u32 (0 : Int), Value.slice none (0 : Nat) (0 : Nat)]
      fun w4 =>
      callV Try.prog (34 : Nat) [Value.pointer (some a), Value.int IntKind.i64 (4 : Int)] w4 fun v5 w6 =>
        isK IntKind.i64 v5 fun i7 =>
          stC w6 { block := n2, off := (0 : Nat) : Addr } [Value.int IntKind.i64 i7] fun w8 =>
            cutC
              (fun u9 =>
                rd (World.cell? w8 { block := n2, off := (0 : Nat) : Addr }) fun v10 =>
                  isK IntKind.i64 v10 fun i11 =>
                    br (decide ((1 : Int) ≤ i11))
                      (rd (World.cell? w8 { block := n2, off := (0 : Nat) : Addr }) fun v12 =>
                        isK IntKind.i64 v12 fun i13 =>
                          callV Try.prog (35 : Nat) [Value.pointer (some a), Value.bool (decide (i13 ≤ (9 : Int)))] w8 fun v14 w15 => u9 (alist []) w15)
                      (callV Try.prog (35 : Nat) [Value.pointer (some a), Value.bool false] w8 fun v16 w17 => u9 (alist []) w17))
              fun u18 =>
              ∀ (u19 : Nat → Value) (w20 : World),
                u18 (alist []) w20 →
                  cutC
                    (fun u22 =>
                      rd (World.cell? w20 { block := n2, off := (0 : Nat) : Addr }) fun v23 =>
                        isK IntKind.i64 v23 fun i24 =>
                          br (decide (i24 = (2 : Int)))
                            (callV Try.prog (34 : Nat) [Value.pointer (some a), Value.int IntKind.i64 (16 : Int)] w20 fun v25 w26 =>
                              isK IntKind.i64 v25 fun i27 =>
                                stC w26 { block := n2, off := (2 : Nat) : Addr } [Value.int IntKind.u16 (IntKind.wrap IntKind.u16 i27)] fun w28 =>
                                  callV Try.prog (34 : Nat) [Value.pointer (some a), Value.int IntKind.i64 (2 : Int)] w28 fun v29 w30 =>
                                    isK IntKind.i64 v29 fun i31 =>
                                      stC w30 { block := n2, off := (3 : Nat) : Addr } [Value.int IntKind.u8 (IntKind.wrap IntKind.u8 i31)] fun w32 =>
                                        callV Try.prog (56 : Nat) [Value.pointer (some a), Value.int IntKind.i64 (8 : Int)] w32 fun v33 w34 =>
                                          isK IntKind.i64 v33 fun i35 =>
                                            stC w34 { block := n2, off := (4 : Nat) : Addr } [Value.int IntKind.i8 (IntKind.wrap IntKind.i8 i35)] fun w36 =>
                                              callV Try.prog (56 : Nat) [Value.pointer (some a), Value.int IntKind.i64 (8 : Int)] w36 fun v37 w38 =>
                                                isK IntKind.i64 v37 fun i39 =>
                                                  stC w38 { block := n2, off := (5 : Nat) : Addr } [Value.int IntKind.i8 (IntKind.wrap IntKind.i8 i39)] fun w40 =>
                                                    callV Try.prog (34 : Nat) [Value.pointer (some a), Value.int IntKind.i64 (3 : Int)] w40 fun v41 w42 =>
                                                      isK IntKind.i64 v41 fun i43 =>
                                                        stC w42 { block := n2, off := (6 : Nat) : Addr } [Value.int IntKind.i64 (IntKind.wrap IntKind.i64 (i43 + (1 : Int)))]
                                                          fun w44 => u22 (alist []) w44)
                            (br (decide (i24 = (3 : Int)))
                              (callV Try.prog (34 : Nat) [Value.pointer (some a), Value.int IntKind.i64 (16 : Int)] w20 fun v45 w46 =>
                                isK IntKind.i64 v45 fun i47 =>
                                  stC w46 { block := n2, off := (7 : Nat) : Addr } [Value.int IntKind.u16 (IntKind.wrap IntKind.u16 i47)] fun w48 =>
                                    callV Try.prog (34 : Nat) [Value.pointer (some a), Value.int IntKind.i64 (1 : Int)] w48 fun v49 w50 =>
                                      isK IntKind.i64 v49 fun i51 =>
                                        stC w50 { block := n2, off := (9 : Nat) : Addr } [Value.int IntKind.i64 i51] fun w52 =>
                                          callV Try.prog (57 : Nat) [Value.pointer (some a), Value.int IntKind.i64 (18 : Int), Value.int IntKind.i64 (65536 : Int)] w52
                                            fun v53 w54 =>
                                            rd (gd (List.length (Array.toList (Value.cells v53)) == (3 : Nat))) fun _x =>
                                              stC w54 { block := n2, off := (10 : Nat) : Addr } (cellsOf true v53) fun w55 => u22 (alist []) w55)
                              (br (decide (i24 = (5 : Int)))
                                (callV Try.prog (58 : Nat) [Value.pointer (some a)] w20 fun v56 w57 =>
                                  isK IntKind.i64 v56 fun i58 => stC w57 { block := n2, off := (8 : Nat) : Addr } [Value.int IntKind.i64 i58] fun w59 => u22 (alist []) w59)
                                (br (decide (i24 = (6 : Int)))
                                  (callV Try.prog (34 : Nat) [Value.pointer (some a), Value.int IntKind.i64 (16 : Int)] w20 fun v60 w61 =>
                                    isK IntKind.i64 v60 fun i62 =>
                                      stC w61 { block := n2, off := (1 : Nat) : Addr } [Value.int IntKind.u16 (IntKind.wrap IntKind.u16 i62)] fun w63 =>
                                        callV Try.prog (57 : Nat) [Value.pointer (some a), Value.int IntKind.i64 (32 : Int), Value.int IntKind.i64 (-1 : Int)] w63 fun v64 w65 =>
                                          rd (gd (List.length (Array.toList (Value.cells v64)) == (3 : Nat))) fun _x =>
                                            stC w65 { block := n2, off := (14 : Nat) : Addr } (cellsOf true v64) fun w66 =>
                                              callV Try.prog (57 : Nat) [Value.pointer (some a), Value.int IntKind.i64 (32 : Int), Value.int IntKind.i64 (-1 : Int)] w66
                                                fun v67 w68 =>
                                                rd (gd (List.length (Array.toList (Value.cells v67)) == (3 : Nat))) fun _x =>
                                                  stC w68 { block := n2, off := (17 : Nat) : Addr } (cellsOf true v67) fun w69 => u22 (alist []) w69)
                                  (br (decide (i24 = (7 : Int)))
                                    (callV Try.prog (34 : Nat) [Value.pointer (some a), Value.int IntKind.i64 (16 : Int)] w20 fun v70 w71 =>
                                      isK IntKind.i64 v70 fun i72 =>
                                        stC w71 { block := n2, off := (7 : Nat) : Addr } [Value.int IntKind.u16 (IntKind.wrap IntKind.u16 i72)] fun w73 =>
                                          callV Try.prog (58 : Nat) [Value.pointer (some a)] w73 fun v74 w75 =>
                                            isK IntKind.i64 v74 fun i76 =>
                                              stC w75 { block := n2, off := (8 : Nat) : Addr } [Value.int IntKind.i64 i76] fun w77 => u22 (alist []) w77)
                                    (br (decide (i24 = (8 : Int)))
                                      (callV Try.prog (34 : Nat) [Value.pointer (some a), Value.int IntKind.i64 (16 : Int)] w20 fun v78 w79 =>
                                        isK IntKind.i64 v78 fun i80 =>
                                          stC w79 { block := n2, off := (7 : Nat) : Addr } [Value.int IntKind.u16 (IntKind.wrap IntKind.u16 i80)] fun w81 =>
                                            callV Try.prog (34 : Nat) [Value.pointer (some a), Value.int IntKind.i64 (4 : Int)] w81 fun v82 w83 =>
                                              isK IntKind.i64 v82 fun i84 =>
                                                br (decide ((1 : Int) ≤ i84))
                                                  (callV Try.prog (35 : Nat) [Value.pointer (some a), Value.bool (decide (i84 ≤ (10 : Int)))] w83 fun v85 w86 =>
                                                    stC w86 { block := n2, off := (13 : Nat) : Addr } [Value.int IntKind.i64 i84] fun w87 => u22 (alist []) w87)
                                                  (callV Try.prog (35 : Nat) [Value.pointer (some a), Value.bool false] w83 fun v88 w89 =>
                                                    stC w89 { block := n2, off := (13 : Nat) : Addr } [Value.int IntKind.i64 i84] fun w90 => u22 (alist []) w90))
                                      (br (decide (i24 = (9 : Int)))
                                        (callV Try.prog (34 : Nat) [Value.pointer (some a), Value.int IntKind.i64 (32 : Int)] w20 fun v91 w92 =>
                                          isK IntKind.i64 v91 fun i93 =>
                                            stC w92 { block := n2, off := (20 : Nat) : Addr } [Value.int IntKind.u32 (IntKind.wrap IntKind.u32 i93)] fun w94 =>
                                              callV Try.prog (34 : Nat) [Value.pointer (some a), Value.int IntKind.i64 (32 : Int)] w94 fun v95 w96 =>
                                                isK IntKind.i64 v95 fun i97 =>
                                                  stC w96 { block := n2, off := (21 : Nat) : Addr } [Value.int IntKind.u32 (IntKind.wrap IntKind.u32 i97)] fun w98 =>
                                                    callV Try.prog (34 : Nat) [Value.pointer (some a), Value.int IntKind.i64 (10 : Int)] w98 fun v99 w100 =>
                                                      isK IntKind.i64 v99 fun i101 =>
                                                        loopC (alist [((6 : Nat), Value.int IntKind.i64 (0 : Int))]) w100 fun u102 u103 =>
                                                          ∀ (u104 : Nat → Value) (w105 : World),
                                                            u102 (alist [((6 : Nat), u104 (6 : Nat))]) w105 →
                                                              isK IntKind.i64 (u104 (6 : Nat)) fun i107 =>
                                                                br (decide (i107 < i101))
                                                                  (rd (World.cell? w105 (Addr.add a (1 : Nat))) fun v108 =>
                                                                    isK IntKind.i64 v108 fun i109 =>
                                                                      br (decide (i109 = (0 : Int)))
                                                                        (callV Try.prog (34 : Nat) [Value.pointer (some a), Value.int IntKind.i64 (8 : Int)] w105 fun v110 w111 =>
                                                                          isK IntKind.i64 v110 fun i112 =>
                                                                            rd (World.cell? w111 { block := n2, off := (22 : Nat) : Addr }) fun v113 =>
                                                                              isSl v113 fun o114 n115 n116 =>
                                                                                runs Try.prog
                                                                                  (Instr.buildSlice (25 : Nat) (1 : Nat)
                                                                                    #[((0 : Nat), Value.int IntKind.u8 (IntKind.wrap IntKind.u8 i112))])
                                                                                  w111 fun v117 w118 =>
                                                                                  isSl v117 fun o119 n120 n121 =>
                                                                                    runs Try.prog
                                                                                      (Builtin.append_ #[(25 : Nat), (25 : Nat)] (25 : Nat)
                                                                                        #[Value.slice o114 n115 n116, Value.slice o119 n120 n121])
                                                                                      w118 fun v122 w123 =>
                                                                                      isSl v122 fun o124 n125 n126 =>
                                                                                        stC w123 { block := n2, off := (22 : Nat) : Addr } [Value.slice o124 n125 n126] fun w127 =>
                                                                                          isK IntKind.i64 (u104 (6 : Nat)) fun i128 =>
                                                                                            again u102 u103
                                                                                              (alist
                                                                                                [((6 : Nat), Value.int IntKind.i64 (IntKind.wrap IntKind.i64 (i128 + (1 : Int))))])
                                                                                              w127 (alist [((6 : Nat), u104 (6 : Nat))]) w105)
                                                                        (u22 (alist []) w105))
                                                                  (u22 (alist []) w105))
                                        (u22 (alist []) w20))))))))
                    fun u129 =>
                    ∀ (u130 : Nat → Value) (w131 : World),
                      u129 (alist []) w131 →
                        rd (cellsAt w131 { block := n2, off := (0 : Nat) : Addr } (23 : Nat)) fun l133 =>
                          rd (gd (List.length l133 == (23 : Nat))) fun _x =>
                            stC w131 { block := n0, off := (0 : Nat) : Addr } l133 fun w134 =>
                              rd (cellsAt w134 { block := n0, off := (0 : Nat) : Addr } (23 : Nat)) fun l135 => R (Value.agg (List.toArray l135)) w134) :
  callV Try.prog 36 [Value.pointer (some a)] w R :=
  vc_of hm ⟨fun n => match n with | 4 => true | 38 => true | _ => false, fun _ => .done, fun n => match n with | 4 => [] | 38 => [] | 34 => [6] | _ => []⟩ Try.func36 ent36 (by kernel_rfl) h

theorem vc19 (a : ByteArray) (w : World) (R : Value → World → Prop)
  (h : callV Try.prog (33 : Nat) [Value.string a] w fun v0 w1 =>
  isStr v0 fun x2 =>
    allocC w1 (Obj.cells #[Value.string x2, Value.int IntKind.i64 (0 : Int)] (79 : Nat)) fun n3 w4 =>
      callV Try.prog (34 : Nat) [Value.pointer (some { block := n3, off := (0 : Nat) : Addr }), Value.int IntKind.i64 (5 : Int)] w4 fun v5 w6 =>
        isK IntKind.i64 v5 fun i7 =>
          callV Try.prog (35 : Nat) [Value.pointer (some { block := n3, off := (0 : Nat) : Addr }), Value.bool (decide (i7 ≤ (16 : Int)))] w6 fun v8 w9 =>
            runs Try.prog (Instr.buildSlice (22 : Nat) (0 : Nat) #[]) w9 fun v10 w11 =>
              isSl v10 fun o12 n13 n14 =>
                cutC
                  (fun u15 =>
                    loopC (alist [((6 : Nat), Value.slice o12 n13 n14)]) w11 fun u16 u17 =>
                      ∀ (u18 : Nat → Value) (w19 : World),
                        u16 (alist [((6 : Nat), u18 (6 : Nat))]) w19 →
                          isSl (u18 (6 : Nat)) fun o21 n22 n23 =>
                            br (decide ((↑n22 : Int) < i7))
                              (rd (World.cell? w19 { block := n3, off := (1 : Nat) : Addr }) fun v24 =>
                                isK IntKind.i64 v24 fun i25 =>
                                  br (decide (i25 = (0 : Int)))
                                    (callV Try.prog (36 : Nat) [Value.pointer (some { block := n3, off := (0 : Nat) : Addr })] w19 fun v26 w27 =>
                                      allocC w27
                                        (Obj.cells
                                          #[Value.int IntKind.i64 (0 : Int), Value.int IntKind.u16 (0 : Int), Value.int IntKind.u16 (0 : Int), Value.int IntKind.u8 (0 : Int),
                                            Value.int IntKind.i8 (0 : Int), Value.int IntKind.i8 (0 : Int), Value.int IntKind.i64 (0 : Int), Value.int IntKind.u16 (0 : Int),
                                            Value.int IntKind.i64 (0 : Int), Value.int IntKind.i64 (0 : Int), Value.int IntKind.i64 (0 : Int), Value.int IntKind.i64 (0 : Int),
                                            Value.int IntKind.i64 (0 : Int), Value.int IntKind.i64 (0 : Int), Value.int IntKind.i64 (0 : Int), Value.int IntKind.i64 (0 : Int),
                                            Value.int IntKind.i64 (0 : Int), Value.int IntKind.i64 (0 : Int), Value.int IntKind.i64 (0 : Int), Value.int IntKind.i64 (0 : Int),
                                            Value.int IntKind.u32 (0 : Int), Value.int IntKind.u32 (0 : Int), Value.slice none (0 : Nat) (0 : Nat)]
                                          (40 : Nat))
                                        fun n28 w29 =>
                                        rd (gd (List.length (Array.toList (Value.cells v26)) == (23 : Nat))) fun _x =>
                                          stC w29 { block := n28, off := (0 : Nat) : Addr } (cellsOf true v26) fun w30 =>
                                            isSl (u18 (6 : Nat)) fun o31 n32 n33 =>
                                              rd (cellsAt w30 { block := n28, off := (0 : Nat) : Addr } (23 : Nat)) fun l34 =>
                                                runs Try.prog (Instr.buildSlice (22 : Nat) (1 : Nat) #[((0 : Nat), Value.agg (List.toArray l34))]) w30 fun v35 w36 =>
                                                  isSl v35 fun o37 n38 n39 =>
                                                    runs Try.prog (Builtin.append_ #[(22 : Nat), (22 : Nat)] (22 : Nat) #[Value.slice o31 n32 n33, Value.slice o37 n38 n39]) w36
                                                      fun v40 w41 =>
                                                      isSl v40 fun o42 n43 n44 =>
                                                        again u16 u17 (alist [((6 : Nat), Value.slice o42 n43 n44)]) w41 (alist [((6 : Nat), u18 (6 : Nat))]) w19)
                                    (u15 (alist [((6 : Nat), u18 (6 : Nat))]) w19))
                              (u15 (alist [((6 : Nat), u18 (6 : Nat))]) w19))
                  fun u45 =>
                  ∀ (u46 : Nat → Value) (w47 : World),
                    u45 (alist [((6 : Nat), u46 (6 : Nat))]) w47 →
                      rd (World.cell? w47 { block := n3, off := (0 : Nat) : Addr }) fun v49 =>
                        isStr v49 fun x50 =>
                          callV Try.prog (37 : Nat) [Value.string x50] w47 fun v51 w52 =>
                            isB v51 fun t53 =>
                              br t53
                                (callV Try.prog (35 : Nat)
                                  [Value.pointer (some { block := n3, off := (0 : Nat) : Addr }), Value.bool (decide ((↑(ByteArray.size a) : Int) ≤ (1024 : Int)))] w52
                                  fun v54 w55 =>
                                  rd (World.cell? w55 { block := n3, off := (1 : Nat) : Addr }) fun v56 =>
                                    isK IntKind.i64 v56 fun i57 =>
                                      br (!decide (i57 = (0 : Int)))
                                        (rd (World.cell? (World.drew w55) { block := n3, off := (1 : Nat) : Addr }) fun v58 =>
                                          isK IntKind.i64 v58 fun i59 => R (Value.tuple #[Value.slice none (0 : Nat) (0 : Nat), Value.int IntKind.i64 i59]) (World.drew w55))
                                        (isSl (u46 (6 : Nat)) fun o60 n61 n62 => R (Value.tuple #[Value.slice o60 n61 n62, Value.int IntKind.i64 (0 : Int)]) w55))
                                (callV Try.prog (35 : Nat) [Value.pointer (some { block := n3, off := (0 : Nat) : Addr }), Value.bool false] w52 fun v63 w64 =>
                                  rd (World.cell? w64 { block := n3, off := (1 : Nat) : Addr }) fun v65 =>
                                    isK IntKind.i64 v65 fun i66 =>
                                      br (!decide (i66 = (0 : Int)))
                                        (rd (World.cell? (World.drew w64) { block := n3, off := (1 : Nat) : Addr }) fun v67 =>
                                          isK IntKind.i64 v67 fun i68 => R (Value.tuple #[Value.slice none (0 : Nat) (0 : Nat), Value.int IntKind.i64 i68]) (World.drew w64))
                                        (isSl (u46 (6 : Nat)) fun o69 n70 n71 => R (Value.tuple #[Value.slice o69 n70 n71, Value.int IntKind.i64 (0 : Int)]) w64))) :
  callV Try.prog 19 [Value.string a] w R :=
  vc_of hm ⟨fun n => match n with | 8 => true | _ => false, fun n => match n with | 11 => .take 0 (.take 1 (.take 2 (.take 3 (.take 4 (.take 5 (.done)))))) | _ => .done, fun n => match n with | 8 => [6] | 5 => [6] | _ => []⟩ Try.func19 ent19 (by kernel_rfl) h

theorem vc4 (ap : Option Addr) (an : Nat) (ac : Nat) (w : World) (R : Value → World → Prop)
  (h : callV Try.prog (12 : Nat) [] w fun v0 w1 =>
  isB v0 fun t2 =>
    runs Try.prog (Instr.sliceAt (25 : Nat) (Value.slice ap an ac) none (some (Value.int IntKind.i64 (min (↑an : Int) (1300 : Int)))) none) w1 fun v3 w4 =>
      isSl v3 fun o5 n6 n7 =>
        runs Try.prog (Instr.buildSlice (25 : Nat) (0 : Nat) #[]) w4 fun v8 w9 =>
          isSl v8 fun o10 n11 n12 =>
            runs Try.prog (Builtin.append_ #[(25 : Nat), (25 : Nat)] (25 : Nat) #[Value.slice o10 n11 n12, Value.slice o5 n6 n7]) w9 fun v13 w14 =>
              isSl v13 fun o15 n16 n17 =>
                callV Try.prog (18 : Nat) [Value.slice o15 n16 n17] w14 fun v18 w19 =>
                  isTup v18 fun l20 =>
                    rd l20[(0 : Nat)]? fun v21 =>
                      isSl v21 fun o22 n23 n24 =>
                        isTup v18 fun l25 =>
                          rd l25[(1 : Nat)]? fun v26 =>
                            isK IntKind.i64 v26 fun i27 =>
                              runs Try.prog (convert (25 : Nat) (9 : Nat) (Value.slice o5 n6 n7)) w19 fun v28 w29 =>
                                isStr v28 fun x30 =>
                                  callV Try.prog (19 : Nat) [Value.string x30] w29 fun v31 w32 =>
                                    isTup v31 fun l33 =>
                                      rd l33[(0 : Nat)]? fun v34 =>
                                        isSl v34 fun o35 n36 n37 =>
                                          isTup v31 fun l38 =>
                                            rd l38[(1 : Nat)]? fun v39 =>
                                              isK IntKind.i64 v39 fun i40 =>
                                                runs Try.prog (convert (25 : Nat) (9 : Nat) (Value.slice o15 n16 n17)) w32 fun v41 w42 =>
                                                  isStr v41 fun x43 =>
                                                    runs Try.prog (convert (25 : Nat) (9 : Nat) (Value.slice o5 n6 n7)) w42 fun v44 w45 =>
                                                      isStr v44 fun x46 =>
                                                        loopC (alist [((10 : Nat), Value.int IntKind.i64 (0 : Int))]) w45 fun u47 u48 =>
                                                          ∀ (u49 : Nat → Value) (w50 : World),
                                                            u47 (alist [((10 : Nat), u49 (10 : Nat))]) w50 →
                                                              isK IntKind.i64 (u49 (10 : Nat)) fun i52 =>
                                                                br (decide (i52 < (↑n16 : Int)))
                                                                  (isK IntKind.i64 (u49 (10 : Nat)) fun i53 =>
                                                                    rd o15 fun a54 =>
                                                                      ((0 : Int) ≤ i53 ∧ i53 < (↑n16 : Int)) ∧
                                                                        stC w50 (Addr.add a54 (Int.toNat i53 * (1 : Nat))) [Value.int IntKind.u8 (63 : Int)] fun w55 =>
                                                                          isK IntKind.i64 (u49 (10 : Nat)) fun i56 =>
                                                                            again u47 u48 (alist [((10 : Nat), Value.int IntKind.i64 (IntKind.wrap IntKind.i64 (i56 + (1 : Int))))])
                                                                              w55 (alist [((10 : Nat), u49 (10 : Nat))]) w50)
                                                                  (br t2
                                                                    (callV Try.prog (20 : Nat) [Value.slice o22 n23 n24, Value.slice o35 n36 n37] w50 fun v57 w58 =>
                                                                      isB v57 fun t59 =>
                                                                        br t59 (br (decide (i27 = i40)) (R (Value.bool (decide (x43 = x46))) w58) (R (Value.bool false) w58))
                                                                          (R (Value.bool false) w58))
                                                                    (R (Value.bool false) w50))) :
  callV Try.prog 4 [Value.slice ap an ac] w R :=
  vc_of hm ⟨fun _ => false, fun _ => .done, fun n => match n with | 8 => [10] | _ => []⟩ Try.func4 ent4 (by kernel_rfl) h

end Go.Proofs.Ytfekkdmnboccfaa
