/- The conditions of functions, written out: printed by a small program (VCDev.lean, vcgen.sh).  Conditions: none. -/
import Derived.Test.YtfekkdmnboccfaaTab
namespace Go.Proofs.Ytfekkdmnboccfaa
set_option linter.unusedSimpArgs false
set_option linter.unusedVariables false
open Go VC
theorem vc9 (ap : Option Addr) (an : Nat) (ac : Nat) (b0 : Int) (b1 : Int) (b20 : Int) (b21 : Int) (b22 : Int) (b23 : Int) (b24 : Int) (b3 : Int) (b4 : Int) (b5 : Int) (b60 : Int) (b61 : Int) (b62 : Int) (b7 : Int) (b80 : Int) (b81 : Int) (b82 : Int) (b90 : Int) (b91 : Int) (b92 : Int) (b10 : Int) (b11 : Int) (b12p : Option Addr) (b12n : Nat) (b12c : Nat) (w : World) (R : Value → World → Prop)
  (h : allocC w
  (Obj.cells
    #[Value.int IntKind.i64 b0, Value.int IntKind.u16 b1, Value.int IntKind.u16 b20, Value.int IntKind.u8 b21, Value.int IntKind.i8 b22, Value.int IntKind.i8 b23,
      Value.int IntKind.i64 b24, Value.int IntKind.u16 b3, Value.int IntKind.i64 b4, Value.int IntKind.i64 b5, Value.int IntKind.i64 b60, Value.int IntKind.i64 b61,
      Value.int IntKind.i64 b62, Value.int IntKind.i64 b7, Value.int IntKind.i64 b80, Value.int IntKind.i64 b81, Value.int IntKind.i64 b82, Value.int IntKind.i64 b90,
      Value.int IntKind.i64 b91, Value.int IntKind.i64 b92, Value.int IntKind.u32 b10, Value.int IntKind.u32 b11, Value.slice b12p b12n b12c]
    (40 : Nat))
  fun n0 w1 =>
  callV Try.prog (12 : Nat) [] w1 fun v2 w3 =>
    isB v2 fun t4 =>
      callV Try.prog (13 : Nat) [Value.slice ap an ac] w3 fun v5 w6 =>
        isSl v5 fun o7 n8 n9 =>
          callV Try.prog (14 : Nat) [Value.slice o7 n8 n9] w6 fun v10 w11 =>
            isTup v10 fun l12 =>
              rd l12[(0 : Nat)]? fun v13 =>
                isSl v13 fun o14 n15 n16 =>
                  isTup v10 fun l17 =>
                    rd l17[(1 : Nat)]? fun v18 =>
                      isK IntKind.i64 v18 fun i19 =>
                        br (!decide (i19 = (0 : Int))) (R (Value.bool t4) w11)
                          (cutC
                            (fun u20 =>
                              loopC (alist [((8 : Nat), Value.int IntKind.i64 (0 : Int)), ((9 : Nat), Value.int IntKind.i64 (0 : Int))]) w11 fun u21 u22 =>
                                ∀ (u23 : Nat → Value) (w24 : World),
                                  u21 (alist [((8 : Nat), u23 (8 : Nat)), ((9 : Nat), u23 (9 : Nat))]) w24 →
                                    isK IntKind.i64 (u23 (9 : Nat)) fun i26 =>
                                      br (decide (i26 ≤ (↑n8 : Int)))
                                        (isK IntKind.i64 (u23 (9 : Nat)) fun i27 =>
                                          runs Try.prog (Instr.sliceAt (22 : Nat) (Value.slice o7 n8 n9) none (some (Value.int IntKind.i64 i27)) none) w24 fun v28 w29 =>
                                            isSl v28 fun o30 n31 n32 =>
                                              callV Try.prog (14 : Nat) [Value.slice o30 n31 n32] w29 fun v33 w34 =>
                                                isTup v33 fun l35 =>
                                                  rd l35[(0 : Nat)]? fun v36 =>
                                                    isSl v36 fun o37 n38 n39 =>
                                                      isTup v33 fun l40 =>
                                                        rd l40[(1 : Nat)]? fun v41 =>
                                                          isK IntKind.i64 v41 fun i42 =>
                                                            br (!decide (i42 = (0 : Int))) (R (Value.bool false) w34)
                                                              (isK IntKind.i64 (u23 (8 : Nat)) fun i43 =>
                                                                br (decide ((↑n38 : Int) < i43)) (R (Value.bool false) w34)
                                                                  (br (decide ((↑n15 : Int) < (↑n38 : Int))) (R (Value.bool false) w34)
                                                                    (isK IntKind.i64 (u23 (9 : Nat)) fun i44 =>
                                                                      again u21 u22
                                                                        (alist
                                                                          [((8 : Nat), Value.int IntKind.i64 (↑n38 : Int)),
                                                                            ((9 : Nat), Value.int IntKind.i64 (IntKind.wrap IntKind.i64 (i44 + (1 : Int))))])
                                                                        w34 (alist [((8 : Nat), u23 (8 : Nat)), ((9 : Nat), u23 (9 : Nat))]) w24))))
                                        (u20 (alist []) w24))
                            fun u45 =>
                            ∀ (u46 : Nat → Value) (w47 : World),
                              u45 (alist []) w47 →
                                rd (World.cell? w47 { block := n0, off := (22 : Nat) : Addr }) fun v49 =>
                                  isSl v49 fun o50 n51 n52 =>
                                    rd (World.cell? w47 { block := n0, off := (22 : Nat) : Addr }) fun v53 =>
                                      isSl v53 fun o54 n55 n56 =>
                                        runs Try.prog (Instr.sliceAt (25 : Nat) (Value.slice o50 n51 n52) none (some (Value.int IntKind.i64 (min (↑n55 : Int) (1100 : Int)))) none)
                                          w47 fun v57 w58 =>
                                          isSl v57 fun o59 n60 n61 =>
                                            stC w58 { block := n0, off := (22 : Nat) : Addr } [Value.slice o59 n60 n61] fun w62 =>
                                              rd (cellsAt w62 { block := n0, off := (0 : Nat) : Addr } (23 : Nat)) fun l63 =>
                                                callV Try.prog (16 : Nat) [Value.agg (List.toArray l63)] w62 fun v64 w65 =>
                                                  isB v64 fun t66 =>
                                                    br (!t66) (R (Value.bool t4) w65)
                                                      (rd (cellsAt w65 { block := n0, off := (0 : Nat) : Addr } (23 : Nat)) fun l67 =>
                                                        runs Try.prog (Instr.buildSlice (22 : Nat) (1 : Nat) #[((0 : Nat), Value.agg (List.toArray l67))]) w65 fun v68 w69 =>
                                                          isSl v68 fun o70 n71 n72 =>
                                                            callV Try.prog (14 : Nat) [Value.slice o70 n71 n72] w69 fun v73 w74 =>
                                                              isTup v73 fun l75 =>
                                                                rd l75[(0 : Nat)]? fun v76 =>
                                                                  isSl v76 fun o77 n78 n79 =>
                                                                    isTup v73 fun l80 =>
                                                                      rd l80[(1 : Nat)]? fun v81 =>
                                                                        isK IntKind.i64 v81 fun i82 =>
                                                                          cutC
                                                                            (fun u83 =>
                                                                              heldC (World.drew w74) fun u84 =>
                                                                                (∀ (w85 : World), u84 w85 → Value.slice o7 n8 n9 = Value.slice o7 n8 n9 ∧ w85 = w85) ∧
                                                                                  rd (cellsAt (World.drew w74) { block := n0, off := (0 : Nat) : Addr } (23 : Nat)) fun l87 =>
                                                                                    (∀ (w88 : World),
                                                                                        u84 w88 →
                                                                                          rd (cellsAt w88 { block := n0, off := (0 : Nat) : Addr } (23 : Nat)) fun l90 =>
                                                                                            Value.agg (List.toArray l90) = Value.agg (List.toArray l87) ∧ w88 = w88) ∧
                                                                                      (runs Try.prog (Instr.buildSlice (22 : Nat) (0 : Nat) #[]) (World.drew w74) fun v91 w92 =>
                                                                                          isSl v91 fun o93 n94 n95 =>
                                                                                            u84 w92 ∧
                                                                                              (runs Try.prog
                                                                                                  (Builtin.append_ #[(22 : Nat), (22 : Nat)] (22 : Nat)
                                                                                                    #[Value.slice o93 n94 n95, Value.slice o7 n8 n9])
                                                                                                  w92 fun v96 w97 =>
                                                                                                  isSl v96 fun o98 n99 n100 =>
                                                                                                    u84 w97 ∧
                                                                                                      runs Try.prog
                                                                                                        (Instr.buildSlice (22 : Nat) (1 : Nat)
                                                                                                          #[((0 : Nat), Value.agg (List.toArray l87))])
                                                                                                        w97 fun v101 w102 =>
                                                                                                        isSl v101 fun o103 n104 n105 =>
                                                                                                          u84 w102 ∧
                                                                                                            runs Try.prog
                                                                                                              (Builtin.append_ #[(22 : Nat), (22 : Nat)] (22 : Nat)
                                                                                                                #[Value.slice o98 n99 n100, Value.slice o103 n104 n105])
                                                                                                              w102 fun v106 w107 =>
                                                                                                              isSl v106 fun o108 n109 n110 =>
                                                                                                                u84 w107 ∧
                                                                                                                  callV Try.prog (14 : Nat) [Value.slice o108 n109 n110] w107
                                                                                                                    fun v111 w112 =>
                                                                                                                    u84 w112 ∧
                                                                                                                      (∀ (w113 : World), u84 w113 → v111 = v111 ∧ w113 = w113) ∧
                                                                                                                        isTup v111 fun l115 =>
                                                                                                                          rd l115[(0 : Nat)]? fun v116 =>
                                                                                                                            (∀ (w117 : World),
                                                                                                                                u84 w117 →
                                                                                                                                  isTup v111 fun l119 =>
                                                                                                                                    rd l119[(0 : Nat)]? fun v120 =>
                                                                                                                                      v120 = v116 ∧ w117 = w117) ∧
                                                                                                                              isSl v116 fun o121 n122 n123 =>
                                                                                                                                isTup v111 fun l124 =>
                                                                                                                                  rd l124[(1 : Nat)]? fun v125 =>
                                                                                                                                    (∀ (w126 : World),
                                                                                                                                        u84 w126 →
                                                                                                                                          isTup v111 fun l128 =>
                                                                                                                                            rd l128[(1 : Nat)]? fun v129 =>
                                                                                                                                              v129 = v125 ∧ w126 = w126) ∧
                                                                                                                                      isK IntKind.i64 v125 fun i130 =>
                                                                                                                                        (∀ (w131 : World),
                                                                                                                                            u84 w131 →
                                                                                                                                              Value.slice o121 n122 n123 =
                                                                                                                                                  Value.slice o121 n122 n123 ∧
                                                                                                                                                w131 = w131) ∧
                                                                                                                                          (∀ (w133 : World),
                                                                                                                                              u84 w133 →
                                                                                                                                                Value.int IntKind.i64 i130 =
                                                                                                                                                    Value.int IntKind.i64 i130 ∧
                                                                                                                                                  w133 = w133) ∧
                                                                                                                                            u83
                                                                                                                                              (alist
                                                                                                                                                [((14 : Nat),
                                                                                                                                                    Value.slice o121 n122 n123),
                                                                                                                                                  ((15 : Nat),
                                                                                                                                                    Value.int IntKind.i64 i130)])
                                                                                                                                              w112) ∧
                                                                                                runs Try.prog
                                                                                                  (Instr.buildSlice (22 : Nat) (1 : Nat)
                                                                                                    #[((0 : Nat), Value.agg (List.toArray l87))])
                                                                                                  w92 fun v135 w136 =>
                                                                                                  isSl v135 fun o137 n138 n139 =>
                                                                                                    u84 w136 ∧
                                                                                                      runs Try.prog
                                                                                                        (Builtin.append_ #[(22 : Nat), (22 : Nat)] (22 : Nat)
                                                                                                          #[Value.slice o93 n94 n95, Value.slice o7 n8 n9])
                                                                                                        w136 fun v140 w141 =>
                                                                                                        isSl v140 fun o142 n143 n144 =>
                                                                                                          u84 w141 ∧
                                                                                                            runs Try.prog
                                                                                                              (Builtin.append_ #[(22 : Nat), (22 : Nat)] (22 : Nat)
                                                                                                                #[Value.slice o142 n143 n144, Value.slice o137 n138 n139])
                                                                                                              w141 fun v145 w146 =>
                                                                                                              isSl v145 fun o147 n148 n149 =>
                                                                                                                u84 w146 ∧
                                                                                                                  callV Try.prog (14 : Nat) [Value.slice o147 n148 n149] w146
                                                                                                                    fun v150 w151 =>
                                                                                                                    u84 w151 ∧
                                                                                                                      (∀ (w152 : World), u84 w152 → v150 = v150 ∧ w152 = w152) ∧
                                                                                                                        isTup v150 fun l154 =>
                                                                                                                          rd l154[(0 : Nat)]? fun v155 =>
                                                                                                                            (∀ (w156 : World),
                                                                                                                                u84 w156 →
                                                                                                                                  isTup v150 fun l158 =>
                                                                                                                                    rd l158[(0 : Nat)]? fun v159 =>
                                                                                                                                      v159 = v155 ∧ w156 = w156) ∧
                                                                                                                              isSl v155 fun o160 n161 n162 =>
                                                                                                                                isTup v150 fun l163 =>
                                                                                                                                  rd l163[(1 : Nat)]? fun v164 =>
                                                                                                                                    (∀ (w165 : World),
                                                                                                                                        u84 w165 →
                                                                                                                                          isTup v150 fun l167 =>
                                                                                                                                            rd l167[(1 : Nat)]? fun v168 =>
                                                                                                                                              v168 = v164 ∧ w165 = w165) ∧
                                                                                                                                      isK IntKind.i64 v164 fun i169 =>
                                                                                                                                        (∀ (w170 : World),
                                                                                                                                            u84 w170 →
                                                                                                                                              Value.slice o160 n161 n162 =
                                                                                                                                                  Value.slice o160 n161 n162 ∧
                                                                                                                                                w170 = w170) ∧
                                                                                                                                          (∀ (w172 : World),
                                                                                                                                              u84 w172 →
                                                                                                                                                Value.int IntKind.i64 i169 =
                                                                                                                                                    Value.int IntKind.i64 i169 ∧
                                                                                                                                                  w172 = w172) ∧
                                                                                                                                            u83
                                                                                                                                              (alist
                                                                                                                                                [((14 : Nat),
                                                                                                                                                    Value.slice o160 n161 n162),
                                                                                                                                                  ((15 : Nat),
                                                                                                                                                    Value.int IntKind.i64 i169)])
                                                                                                                                              w151) ∧
                                                                                        runs Try.prog
                                                                                          (Instr.buildSlice (22 : Nat) (1 : Nat) #[((0 : Nat), Value.agg (List.toArray l87))])
                                                                                          (World.drew w74) fun v174 w175 =>
                                                                                          isSl v174 fun o176 n177 n178 =>
                                                                                            u84 w175 ∧
                                                                                              runs Try.prog (Instr.buildSlice (22 : Nat) (0 : Nat) #[]) w175 fun v179 w180 =>
                                                                                                isSl v179 fun o181 n182 n183 =>
                                                                                                  u84 w180 ∧
                                                                                                    runs Try.prog
                                                                                                      (Builtin.append_ #[(22 : Nat), (22 : Nat)] (22 : Nat)
                                                                                                        #[Value.slice o181 n182 n183, Value.slice o7 n8 n9])
                                                                                                      w180 fun v184 w185 =>
                                                                                                      isSl v184 fun o186 n187 n188 =>
                                                                                                        u84 w185 ∧
                                                                                                          runs Try.prog
                                                                                                            (Builtin.append_ #[(22 : Nat), (22 : Nat)] (22 : Nat)
                                                                                                              #[Value.slice o186 n187 n188, Value.slice o176 n177 n178])
                                                                                                            w185 fun v189 w190 =>
                                                                                                            isSl v189 fun o191 n192 n193 =>
                                                                                                              u84 w190 ∧
                                                                                                                callV Try.prog (14 : Nat) [Value.slice o191 n192 n193] w190
                                                                                                                  fun v194 w195 =>
                                                                                                                  u84 w195 ∧
                                                                                                                    (∀ (w196 : World), u84 w196 → v194 = v194 ∧ w196 = w196) ∧
                                                                                                                      isTup v194 fun l198 =>
                                                                                                                        rd l198[(0 : Nat)]? fun v199 =>
                                                                                                                          (∀ (w200 : World),
                                                                                                                              u84 w200 →
                                                                                                                                isTup v194 fun l202 =>
                                                                                                                                  rd l202[(0 : Nat)]? fun v203 =>
                                                                                                                                    v203 = v199 ∧ w200 = w200) ∧
                                                                                                                            isSl v199 fun o204 n205 n206 =>
                                                                                                                              isTup v194 fun l207 =>
                                                                                                                                rd l207[(1 : Nat)]? fun v208 =>
                                                                                                                                  (∀ (w209 : World),
                                                                                                                                      u84 w209 →
                                                                                                                                        isTup v194 fun l211 =>
                                                                                                                                          rd l211[(1 : Nat)]? fun v212 =>
                                                                                                                                            v212 = v208 ∧ w209 = w209) ∧
                                                                                                                                    isK IntKind.i64 v208 fun i213 =>
                                                                                                                                      (∀ (w214 : World),
                                                                                                                                          u84 w214 →
                                                                                                                                            Value.slice o204 n205 n206 =
                                                                                                                                                Value.slice o204 n205 n206 ∧
                                                                                                                                              w214 = w214) ∧
                                                                                                                                        (∀ (w216 : World),
                                                                                                                                            u84 w216 →
                                                                                                                                              Value.int IntKind.i64 i213 =
                                                                                                                                                  Value.int IntKind.i64 i213 ∧
                                                                                                                                                w216 = w216) ∧
                                                                                                                                          u83
                                                                                                                                            (alist
                                                                                                                                              [((14 : Nat),
                                                                                                                                                  Value.slice o204 n205 n206),
                                                                                                                                                ((15 : Nat),
                                                                                                                                                  Value.int IntKind.i64 i213)])
                                                                                                                                            w195)
                                                                            fun u218 =>
                                                                            ∀ (u219 : Nat → Value) (w220 : World),
                                                                              u218 (alist [((14 : Nat), u219 (14 : Nat)), ((15 : Nat), u219 (15 : Nat))]) w220 →
                                                                                isK IntKind.i64 (u219 (15 : Nat)) fun i222 =>
                                                                                  br (decide (i222 = (0 : Int)))
                                                                                    (br t4
                                                                                      (br (decide (i82 = (0 : Int)))
                                                                                        (isSl (u219 (14 : Nat)) fun o223 n224 n225 =>
                                                                                          br (decide ((↑n15 : Int) ≤ (↑n224 : Int)))
                                                                                            (isSl (u219 (14 : Nat)) fun o226 n227 n228 =>
                                                                                              R
                                                                                                (Value.bool
                                                                                                  (decide ((↑n227 : Int) ≤ IntKind.wrap IntKind.i64 ((↑n15 : Int) + (↑n78 : Int)))))
                                                                                                w220)
                                                                                            (R (Value.bool false) w220))
                                                                                        (R (Value.bool false) w220))
                                                                                      (R (Value.bool false) w220))
                                                                                    (br t4
                                                                                      (isK IntKind.i64 (u219 (15 : Nat)) fun i229 =>
                                                                                        br (decide (i229 = (5 : Int)))
                                                                                          (br (decide ((↑n8 : Int) = (16 : Int))) (R (Value.bool true) w220)
                                                                                            (br (decide (i82 = (5 : Int))) (R (Value.bool true) w220)
                                                                                              (R
                                                                                                (Value.bool
                                                                                                  (decide ((1024 : Int) < IntKind.wrap IntKind.i64 ((↑n15 : Int) + (↑n78 : Int)))))
                                                                                                w220)))
                                                                                          (R (Value.bool false) w220))
                                                                                      (R (Value.bool false) w220))))) :
  callV Try.prog 9 [Value.slice ap an ac, Value.agg #[Value.int IntKind.i64 b0, Value.int IntKind.u16 b1, Value.int IntKind.u16 b20, Value.int IntKind.u8 b21, Value.int IntKind.i8 b22, Value.int IntKind.i8 b23, Value.int IntKind.i64 b24, Value.int IntKind.u16 b3, Value.int IntKind.i64 b4, Value.int IntKind.i64 b5, Value.int IntKind.i64 b60, Value.int IntKind.i64 b61, Value.int IntKind.i64 b62, Value.int IntKind.i64 b7, Value.int IntKind.i64 b80, Value.int IntKind.i64 b81, Value.int IntKind.i64 b82, Value.int IntKind.i64 b90, Value.int IntKind.i64 b91, Value.int IntKind.i64 b92, Value.int IntKind.u32 b10, Value.int IntKind.u32 b11, Value.slice b12p b12n b12c]] w R :=
  vc_of hm ⟨fun n => match n with | 14 => true | 19 => true | _ => false, fun n => match n with | 18 => .take 1 (.take 3 (.two 0 (.two 2 (.one 4 (.one 5 (.one 6 (.take 7 (.take 8 (.take 9 (.take 10 (.take 11 (.done))))))))) 4 (.one 2 (.one 5 (.one 6 (.take 7 (.take 8 (.take 9 (.take 10 (.take 11 (.done)))))))))) 4 (.one 0 (.one 2 (.one 5 (.one 6 (.take 7 (.take 8 (.take 9 (.take 10 (.take 11 (.done)))))))))))) | _ => .done, fun n => match n with | 14 => [] | 8 => [8, 9] | 19 => [14, 15] | _ => []⟩ Try.func9 ent9 (by kernel_rfl) h

theorem vc11 (ap : Option Addr) (an : Nat) (ac : Nat) (w : World) (R : Value → World → Prop)
  (h : callV Try.prog (12 : Nat) [] w fun v0 w1 =>
  isB v0 fun t2 =>
    callV Try.prog (13 : Nat) [Value.slice ap an ac] w1 fun v3 w4 =>
      isSl v3 fun o5 n6 n7 =>
        callV Try.prog (14 : Nat) [Value.slice o5 n6 n7] w4 fun v8 w9 =>
          isTup v8 fun l10 =>
            rd l10[(0 : Nat)]? fun v11 =>
              isSl v11 fun o12 n13 n14 =>
                isTup v8 fun l15 =>
                  rd l15[(1 : Nat)]? fun v16 =>
                    isK IntKind.i64 v16 fun i17 =>
                      br (!decide (i17 = (0 : Int))) (R (Value.bool t2) w9)
                        (runs Try.prog (convert (25 : Nat) (9 : Nat) (Value.slice o12 n13 n14)) w9 fun v18 w19 =>
                          isStr v18 fun x20 =>
                            callV Try.prog (18 : Nat) [Value.slice o12 n13 n14] w19 fun v21 w22 =>
                              isTup v21 fun l23 =>
                                rd l23[(0 : Nat)]? fun v24 =>
                                  isSl v24 fun o25 n26 n27 =>
                                    isTup v21 fun l28 =>
                                      rd l28[(1 : Nat)]? fun v29 =>
                                        isK IntKind.i64 v29 fun i30 =>
                                          callV Try.prog (18 : Nat) [Value.slice o12 n13 n14] w22 fun v31 w32 =>
                                            isTup v31 fun l33 =>
                                              rd l33[(0 : Nat)]? fun v34 =>
                                                isSl v34 fun o35 n36 n37 =>
                                                  isTup v31 fun l38 =>
                                                    rd l38[(1 : Nat)]? fun v39 =>
                                                      isK IntKind.i64 v39 fun i40 =>
                                                        br (!decide (i30 = (0 : Int))) (R (Value.bool false) w32)
                                                          (br (!decide (i40 = (0 : Int))) (R (Value.bool false) w32)
                                                            (loopC (alist [((11 : Nat), Value.int IntKind.i64 (0 : Int))]) w32 fun u41 u42 =>
                                                              ∀ (u43 : Nat → Value) (w44 : World),
                                                                u41 (alist [((11 : Nat), u43 (11 : Nat))]) w44 →
                                                                  isK IntKind.i64 (u43 (11 : Nat)) fun i46 =>
                                                                    br (decide (i46 < (↑n26 : Int)))
                                                                      (cutC
                                                                        (fun u47 =>
                                                                          loopC (alist [((12 : Nat), Value.int IntKind.i64 (0 : Int))]) w44 fun u48 u49 =>
                                                                            ∀ (u50 : Nat → Value) (w51 : World),
                                                                              u48 (alist [((12 : Nat), u50 (12 : Nat))]) w51 →
                                                                                isK IntKind.i64 (u50 (12 : Nat)) fun i53 =>
                                                                                  isK IntKind.i64 (u43 (11 : Nat)) fun i54 =>
                                                                                    rd o25 fun a55 =>
                                                                                      ((0 : Int) ≤ i54 ∧ i54 < (↑n26 : Int)) ∧
                                                                                        rd (World.cell? w51 (Addr.add (Addr.add a55 (Int.toNat i54 * (23 : Nat))) (22 : Nat)))
                                                                                          fun v56 =>
                                                                                          isSl v56 fun o57 n58 n59 =>
                                                                                            br (decide (i53 < (↑n58 : Int)))
                                                                                              (heldC (World.drew w51) fun u60 =>
                                                                                                (∀ (w61 : World),
                                                                                                    u60 w61 → Value.slice o25 n26 n27 = Value.slice o25 n26 n27 ∧ w61 = w61) ∧
                                                                                                  (∀ (w63 : World), u60 w63 → u43 (11 : Nat) = u43 (11 : Nat) ∧ w63 = w63) ∧
                                                                                                    isK IntKind.i64 (u43 (11 : Nat)) fun i65 =>
                                                                                                      rd o25 fun a66 =>
                                                                                                        ((0 : Int) ≤ i65 ∧ i65 < (↑n26 : Int)) ∧
                                                                                                          (∀ (w67 : World),
                                                                                                              u60 w67 →
                                                                                                                rd o25 fun a69 =>
                                                                                                                  ((0 : Int) ≤ i65 ∧ i65 < (↑n26 : Int)) ∧
                                                                                                                    Value.pointer
                                                                                                                          (some (Addr.add a69 (Int.toNat i65 * (23 : Nat)))) =
                                                                                                                        Value.pointer
                                                                                                                          (some (Addr.add a66 (Int.toNat i65 * (23 : Nat)))) ∧
                                                                                                                      w67 = w67) ∧
                                                                                                            (∀ (w70 : World),
                                                                                                                u60 w70 →
                                                                                                                  Value.pointer
                                                                                                                        (some
                                                                                                                          (Addr.add (Addr.add a66 (Int.toNat i65 * (23 : Nat)))
                                                                                                                            (22 : Nat))) =
                                                                                                                      Value.pointer
                                                                                                                        (some
                                                                                                                          (Addr.add (Addr.add a66 (Int.toNat i65 * (23 : Nat)))
                                                                                                                            (22 : Nat))) ∧
                                                                                                                    w70 = w70) ∧
                                                                                                              rd
                                                                                                                (World.cell? (World.drew w51)
                                                                                                                  (Addr.add (Addr.add a66 (Int.toNat i65 * (23 : Nat))) (22 : Nat)))
                                                                                                                fun v72 =>
                                                                                                                (∀ (w73 : World),
                                                                                                                    u60 w73 →
                                                                                                                      rd
                                                                                                                        (World.cell? w73
                                                                                                                          (Addr.add (Addr.add a66 (Int.toNat i65 * (23 : Nat)))
                                                                                                                            (22 : Nat)))
                                                                                                                        fun v75 => v75 = v72 ∧ w73 = w73) ∧
                                                                                                                  isSl v72 fun o76 n77 n78 =>
                                                                                                                    (∀ (w79 : World),
                                                                                                                        u60 w79 → u50 (12 : Nat) = u50 (12 : Nat) ∧ w79 = w79) ∧
                                                                                                                      isK IntKind.i64 (u50 (12 : Nat)) fun i81 =>
                                                                                                                        (∀ (w82 : World),
                                                                                                                            u60 w82 →
                                                                                                                              Value.slice o25 n26 n27 = Value.slice o25 n26 n27 ∧
                                                                                                                                w82 = w82) ∧
                                                                                                                          (∀ (w84 : World),
                                                                                                                              u60 w84 →
                                                                                                                                u43 (11 : Nat) = u43 (11 : Nat) ∧ w84 = w84) ∧
                                                                                                                            isK IntKind.i64 (u43 (11 : Nat)) fun i86 =>
                                                                                                                              rd o25 fun a87 =>
                                                                                                                                ((0 : Int) ≤ i86 ∧ i86 < (↑n26 : Int)) ∧
                                                                                                                                  (∀ (w88 : World),
                                                                                                                                      u60 w88 →
                                                                                                                                        rd o25 fun a90 =>
                                                                                                                                          ((0 : Int) ≤ i86 ∧ i86 < (↑n26 : Int)) ∧
                                                                                                                                            Value.pointer
                                                                                                                                                  (some
                                                                                                                                                    (Addr.add a90
                                                                                                                                                      (Int.toNat i86 *
                                                                                                                                                        (23 : Nat)))) =
                                                                                                                                                Value.pointer
                                                                                                                                                  (some
                                                                                                                                                    (Addr.add a87
                                                                                                                                                      (Int.toNat i86 *
                                                                                                                                                        (23 : Nat)))) ∧
                                                                                                                                              w88 = w88) ∧
                                                                                                                                    (∀ (w91 : World),
                                                                                                                                        u60 w91 →
                                                                                                                                          Value.pointer
                                                                                                                                                (some
                                                                                                                                                  (Addr.add
                                                                                                                                                    (Addr.add a87
                                                                                                                                                      (Int.toNat i86 * (23 : Nat)))
                                                                                                                                                    (22 : Nat))) =
                                                                                                                                              Value.pointer
                                                                                                                                                (some
                                                                                                                                                  (Addr.add
                                                                                                                                                    (Addr.add a87
                                                                                                                                                      (Int.toNat i86 * (23 : Nat)))
                                                                                                                                                    (22 : Nat))) ∧
                                                                                                                                            w91 = w91) ∧
                                                                                                                                      rd
                                                                                                                                        (World.cell? (World.drew w51)
                                                                                                                                          (Addr.add
                                                                                                                                            (Addr.add a87
                                                                                                                                              (Int.toNat i86 * (23 : Nat)))
                                                                                                                                            (22 : Nat)))
                                                                                                                                        fun v93 =>
                                                                                                                                        (∀ (w94 : World),
                                                                                                                                            u60 w94 →
                                                                                                                                              rd
                                                                                                                                                (World.cell? w94
                                                                                                                                                  (Addr.add
                                                                                                                                                    (Addr.add a87
                                                                                                                                                      (Int.toNat i86 * (23 : Nat)))
                                                                                                                                                    (22 : Nat)))
                                                                                                                                                fun v96 => v96 = v93 ∧ w94 = w94) ∧
                                                                                                                                          isSl v93 fun o97 n98 n99 =>
                                                                                                                                            (∀ (w100 : World),
                                                                                                                                                u60 w100 →
                                                                                                                                                  u50 (12 : Nat) = u50 (12 : Nat) ∧
                                                                                                                                                    w100 = w100) ∧
                                                                                                                                              isK IntKind.i64 (u50 (12 : Nat))
                                                                                                                                                fun i102 =>
                                                                                                                                                rd o97 fun a103 =>
                                                                                                                                                  ((0 : Int) ≤ i102 ∧
                                                                                                                                                      i102 < (↑n98 : Int)) ∧
                                                                                                                                                    (∀ (w104 : World),
                                                                                                                                                        u60 w104 →
                                                                                                                                                          rd o97 fun a106 =>
                                                                                                                                                            ((0 : Int) ≤ i102 ∧
                                                                                                                                                                i102 <
                                                                                                                                                                  (↑n98 : Int)) ∧
                                                                                                                                                              Value.pointer
                                                                                                                                                                    (some
                                                                                                                                                                      (Addr.add a106
                                                                                                                                                                        (Int.toNat
                                                                                                                                                                            i102 *
                                                                                                                                                                          (1 :
                                                                                                                                                                            Nat)))) =
                                                                                                                                                                  Value.pointer
                                                                                                                                                                    (some
                                                                                                                                                                      (Addr.add a103
                                                                                                                                                                        (Int.toNat
                                                                                                                                                                            i102 *
                                                                                                                                                                          (1 :
                                                                                                                                                                            Nat)))) ∧
                                                                                                                                                                w104 = w104) ∧
                                                                                                                                                      rd
                                                                                                                                                        (World.cell?
                                                                                                                                                          (World.drew w51)
                                                                                                                                                          (Addr.add a103
                                                                                                                                                            (Int.toNat i102 *
                                                                                                                                                              (1 : Nat))))
                                                                                                                                                        fun v107 =>
                                                                                                                                                        isK IntKind.u8 v107
                                                                                                                                                          fun i108 =>
                                                                                                                                                          u60 (World.drew w51) ∧
                                                                                                                                                            (∀ (w109 : World),
                                                                                                                                                                u60 w109 →
                                                                                                                                                                  Value.int
                                                                                                                                                                        IntKind.u8
                                                                                                                                                                        (IntKind.wrap
                                                                                                                                                                          IntKind.u8
                                                                                                                                                                          (i108 +
                                                                                                                                                                            (1 :
                                                                                                                                                                              Int))) =
                                                                                                                                                                      Value.int
                                                                                                                                                                        IntKind.u8
                                                                                                                                                                        (IntKind.wrap
                                                                                                                                                                          IntKind.u8
                                                                                                                                                                          (i108 +
                                                                                                                                                                            (1 :
                                                                                                                                                                              Int))) ∧
                                                                                                                                                                    w109 = w109) ∧
                                                                                                                                                              rd o76 fun a111 =>
                                                                                                                                                                ((0 : Int) ≤ i81 ∧
                                                                                                                                                                    i81 <
                                                                                                                                                                      (↑n77 :
                                                                                                                                                                        Int)) ∧
                                                                                                                                                                  (∀ (w112 : World),
                                                                                                                                                                      u60 w112 →
                                                                                                                                                                        rd o76
                                                                                                                                                                          fun
                                                                                                                                                                            a114 =>
                                                                                                                                                                          ((0 :
                                                                                                                                                                                  Int) ≤
                                                                                                                                                                                i81 ∧
                                                                                                                                                                              i81 <
                                                                                                                                                                                (↑n77 :
                                                                                                                                                                                  Int)) ∧
                                                                                                                                                                            Value.pointer
                                                                                                                                                                                  (some
                                                                                                                                                                                    (Addr.add
                                                                                                                                                                                      a114
                                                                                                                                                                                      (Int.toNat
                                                                                                                                                                                          i81 *
                                                                                                                                                                                        (1 :
                                                                                                                                                                                          Nat)))) =
                                                                                                                                                                                Value.pointer
                                                                                                                                                                                  (some
                                                                                                                                                                                    (Addr.add
                                                                                                                                                                                      a111
                                                                                                                                                                                      (Int.toNat
                                                                                                                                                                                          i81 *
                                                                                                                                                                                        (1 :
                                                                                                                                                                                          Nat)))) ∧
                                                                                                                                                                              w112 =
                                                                                                                                                                                w112) ∧
                                                                                                                                                                    stC
                                                                                                                                                                      (World.drew
                                                                                                                                                                        w51)
                                                                                                                                                                      (Addr.add a111
                                                                                                                                                                        (Int.toNat
                                                                                                                                                                            i81 *
                                                                                                                                                                          (1 :
                                                                                                                                                                            Nat)))
                                                                                                                                                                      [Value.int
                                                                                                                                                                          IntKind.u8
                                                                                                                                                                          (IntKind.wrap
                                                                                                                                                                            IntKind.u8
                                                                                                                                                                            (i108 +
                                                                                                                                                                              (1 :
                                                                                                                                                                                Int)))]
                                                                                                                                                                      fun w115 =>
                                                                                                                                                                      u60 w115 ∧
                                                                                                                                                                        isK
                                                                                                                                                                          IntKind.i64
                                                                                                                                                                          (u50
                                                                                                                                                                            (12 :
                                                                                                                                                                              Nat))
                                                                                                                                                                          fun
                                                                                                                                                                            i116 =>
                                                                                                                                                                          again u48
                                                                                                                                                                            u49
                                                                                                                                                                            (alist
                                                                                                                                                                              [((12 :
                                                                                                                                                                                    Nat),
                                                                                                                                                                                  Value.int
                                                                                                                                                                                    IntKind.i64
                                                                                                                                                                                    (IntKind.wrap
                                                                                                                                                                                      IntKind.i64
                                                                                                                                                                                      (i116 +
                                                                                                                                                                                        (1 :
                                                                                                                                                                                          Int))))])
                                                                                                                                                                            w115
                                                                                                                                                                            (alist
                                                                                                                                                                              [((12 :
                                                                                                                                                                                    Nat),
                                                                                                                                                                                  u50
                                                                                                                                                                                    (12 :
                                                                                                                                                                                      Nat))])
                                                                                                                                                                            w51)
                                                                                              (u47 (alist []) w51))
                                                                        fun u117 =>
                                                                        ∀ (u118 : Nat → Value) (w119 : World),
                                                                          u117 (alist []) w119 →
                                                                            isK IntKind.i64 (u43 (11 : Nat)) fun i121 =>
                                                                              rd o25 fun a122 =>
                                                                                ((0 : Int) ≤ i121 ∧ i121 < (↑n26 : Int)) ∧
                                                                                  stC w119 (Addr.add a122 (Int.toNat i121 * (23 : Nat))) [Value.int IntKind.i64 (0 : Int)]
                                                                                    fun w123 =>
                                                                                    isK IntKind.i64 (u43 (11 : Nat)) fun i124 =>
                                                                                      again u41 u42
                                                                                        (alist [((11 : Nat), Value.int IntKind.i64 (IntKind.wrap IntKind.i64 (i124 + (1 : Int))))])
                                                                                        w123 (alist [((11 : Nat), u43 (11 : Nat))]) w44)
                                                                      (br t2
                                                                        (callV Try.prog (20 : Nat) [Value.slice o35 n36 n37, Value.slice o5 n6 n7] w44 fun v125 w126 =>
                                                                          isB v125 fun t127 =>
                                                                            br t127
                                                                              (runs Try.prog (convert (25 : Nat) (9 : Nat) (Value.slice o12 n13 n14)) w126 fun v128 w129 =>
                                                                                isStr v128 fun x130 => R (Value.bool (decide (x130 = x20))) w129)
                                                                              (R (Value.bool false) w126))
                                                                        (R (Value.bool false) w44)))))) :
  callV Try.prog 11 [Value.slice ap an ac] w R :=
  vc_of hm ⟨fun n => match n with | 18 => true | _ => false, fun n => match n with | 17 => .take 0 (.take 1 (.take 2 (.take 3 (.take 4 (.take 5 (.take 6 (.take 7 (.take 8 (.take 9 (.take 10 (.take 11 (.take 12 (.one 13 (.take 14 (.take 15 (.one 16 (.done))))))))))))))))) | _ => .done, fun n => match n with | 12 => [11] | 18 => [] | 15 => [12] | _ => []⟩ Try.func11 ent11 (by kernel_rfl) h

end Go.Proofs.Ytfekkdmnboccfaa
