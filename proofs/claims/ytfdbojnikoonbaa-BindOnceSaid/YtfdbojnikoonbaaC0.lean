/- The conditions of functions, written out: printed by a small program (VCDev.lean, vcgen.sh).  Conditions: none. -/
import Derived.Test.YtfdbojnikoonbaaTab
namespace Go.Proofs.Ytfdbojnikoonbaa
set_option linter.unusedSimpArgs false
set_option linter.unusedVariables false
open Go VC
theorem vc8 (w : World) (R : Value → World → Prop)
  (h : allocC w (Obj.map #[] (0 : Nat)) fun n0 w1 =>
  allocC w1 (Obj.map #[] (0 : Nat)) fun n2 w3 =>
    allocC w3 (Obj.cells #[Value.map (some n0), Value.map (some n2)] (43 : Nat)) fun n4 w5 => R (Value.pointer (some { block := n4, off := (0 : Nat) : Addr })) w5) :
  callV Try.prog 8 [] w R :=
  vc_of hm noHints Try.func8 ent8 (by kernel_rfl) h

theorem vc9 (a : Addr) (b : Int) (c : Int) (d : Int) (w : World) (R : Value → World → Prop)
  (h : br (decide (d < (1 : Int))) (R (Value.int IntKind.i64 (1 : Int)) w)
  (rd (World.cell? w (Addr.add a (1 : Nat))) fun v0 =>
    runs Try.prog (Instr.lookup (41 : Nat) v0 (Value.int IntKind.i64 d) false) w fun v1 w2 =>
      isB v1 fun t3 =>
        br t3 (R (Value.int IntKind.i64 (1 : Int)) w2)
          (callV Try.prog (14 : Nat) [Value.pointer (some a), Value.int IntKind.i64 b, Value.int IntKind.u16 c, Value.int IntKind.i64 d] w2 fun v4 w5 =>
            isK IntKind.i64 v4 fun i6 => R (Value.int IntKind.i64 i6) w5))) :
  callV Try.prog 9 [Value.pointer (some a), Value.int IntKind.i64 b, Value.int IntKind.u16 c, Value.int IntKind.i64 d] w R :=
  vc_of hm noHints Try.func9 ent9 (by kernel_rfl) h

theorem vc10 (a : Addr) (w : World) (R : Value → World → Prop)
  (h : rd (World.cell? w a) fun v0 =>
  runs Try.prog (Instr.range (40 : Nat) v0) w fun v1 w2 =>
    loopC (alist [((3 : Nat), Value.int IntKind.i64 (0 : Int))]) w2 fun u3 u4 =>
      ∀ (u5 : Nat → Value) (w6 : World),
        u3 (alist [((3 : Nat), u5 (3 : Nat))]) w6 →
          runs Try.prog (Instr.next v1 false (0 : Nat)) w6 fun v8 w9 =>
            isTup v8 fun l10 =>
              rd l10[(0 : Nat)]? fun v11 =>
                isB v11 fun t12 =>
                  br t12
                    (runs Try.prog (Instr.entry v1) w9 fun v13 w14 =>
                      isTup v13 fun l15 =>
                        rd l15[(1 : Nat)]? fun v16 =>
                          isP v16 fun o17 =>
                            isK IntKind.i64 (u5 (3 : Nat)) fun i18 =>
                              rd (nilChk (Value.pointer o17)) fun v19 =>
                                isPtr v19 fun a20 =>
                                  rd (World.cell? w14 (Addr.add a20 (1 : Nat))) fun v21 =>
                                    runs Try.prog (Builtin.len_ #[(45 : Nat)] (3 : Nat) #[v21]) w14 fun v22 w23 =>
                                      isK IntKind.i64 v22 fun i24 =>
                                        again u3 u4 (alist [((3 : Nat), Value.int IntKind.i64 (IntKind.wrap IntKind.i64 (i18 + i24)))]) w23 (alist [((3 : Nat), u5 (3 : Nat))]) w6)
                    (isK IntKind.i64 (u5 (3 : Nat)) fun i25 => R (Value.int IntKind.i64 i25) w9)) :
  callV Try.prog 10 [Value.pointer (some a)] w R :=
  vc_of hm ⟨fun _ => false, fun _ => .done, fun n => match n with | 3 => [3] | _ => []⟩ Try.func10 ent10 (by kernel_rfl) h

theorem vc11 (a : Addr) (b : Int) (c : Int) (w : World) (R : Value → World → Prop)
  (h : rd (World.cell? w a) fun v0 =>
  runs Try.prog (Instr.lookup (40 : Nat) v0 (Value.int IntKind.i64 b) false) w fun v1 w2 =>
    isP v1 fun o3 =>
      br (Option.isNone o3) (R (Value.tuple #[Value.int IntKind.i64 (0 : Int), Value.int IntKind.i64 (6 : Int)]) w2)
        (rd (nilChk (Value.pointer o3)) fun v4 =>
          isPtr v4 fun a5 =>
            rd (World.cell? w2 (Addr.add a5 (1 : Nat))) fun v6 =>
              runs Try.prog (Instr.lookup (45 : Nat) v6 (Value.int IntKind.u16 c) true) w2 fun v7 w8 =>
                isTup v7 fun l9 =>
                  rd l9[(0 : Nat)]? fun v10 =>
                    isK IntKind.i64 v10 fun i11 =>
                      isTup v7 fun l12 =>
                        rd l12[(1 : Nat)]? fun v13 =>
                          isB v13 fun t14 =>
                            br t14 (R (Value.tuple #[Value.int IntKind.i64 i11, Value.int IntKind.i64 (0 : Int)]) w8)
                              (callV Try.prog (15 : Nat) [Value.pointer o3, Value.int IntKind.u16 c] w8 fun v15 w16 =>
                                isB v15 fun t17 =>
                                  br (!t17) (R (Value.tuple #[Value.int IntKind.i64 (0 : Int), Value.int IntKind.i64 (7 : Int)]) w16)
                                    (R (Value.tuple #[Value.int IntKind.i64 (0 : Int), Value.int IntKind.i64 (6 : Int)]) w16)))) :
  callV Try.prog 11 [Value.pointer (some a), Value.int IntKind.i64 b, Value.int IntKind.u16 c] w R :=
  vc_of hm noHints Try.func11 ent11 (by kernel_rfl) h

theorem vc12 (a : Addr) (b : Int) (c : Int) (w : World) (R : Value → World → Prop)
  (h : callV Try.prog (14 : Nat) [Value.pointer (some a), Value.int IntKind.i64 b, Value.int IntKind.u16 c, Value.int IntKind.i64 (0 : Int)] w fun v0 w1 =>
  isK IntKind.i64 v0 fun i2 => R (Value.int IntKind.i64 i2) w1) :
  callV Try.prog 12 [Value.pointer (some a), Value.int IntKind.i64 b, Value.int IntKind.u16 c] w R :=
  vc_of hm noHints Try.func12 ent12 (by kernel_rfl) h

theorem vc13 (a : Addr) (b0 : Int) (b1 : Int) (b2 : Int) (b3 : Int) (w : World) (R : Value → World → Prop)
  (h : allocC w (Obj.cells #[Value.int IntKind.i64 b0, Value.int IntKind.i64 b1, Value.int IntKind.u16 b2, Value.int IntKind.i64 b3] (35 : Nat)) fun n0 w1 =>
  rd (World.cell? w1 { block := n0, off := (0 : Nat) : Addr }) fun v2 =>
    isK IntKind.i64 v2 fun i3 =>
      br (decide (i3 = (0 : Int)))
        (rd (World.cell? w1 { block := n0, off := (1 : Nat) : Addr }) fun v4 =>
          isK IntKind.i64 v4 fun i5 =>
            rd (World.cell? w1 { block := n0, off := (2 : Nat) : Addr }) fun v6 =>
              isK IntKind.u16 v6 fun i7 =>
                rd (World.cell? w1 { block := n0, off := (3 : Nat) : Addr }) fun v8 =>
                  isK IntKind.i64 v8 fun i9 =>
                    callV Try.prog (9 : Nat) [Value.pointer (some a), Value.int IntKind.i64 i5, Value.int IntKind.u16 i7, Value.int IntKind.i64 i9] w1 fun v10 w11 =>
                      isK IntKind.i64 v10 fun i12 => R (Value.int IntKind.i64 i12) w11)
        (br (decide (i3 = (1 : Int)))
          (rd (World.cell? w1 { block := n0, off := (1 : Nat) : Addr }) fun v13 =>
            isK IntKind.i64 v13 fun i14 =>
              rd (World.cell? w1 { block := n0, off := (2 : Nat) : Addr }) fun v15 =>
                isK IntKind.u16 v15 fun i16 =>
                  rd (World.cell? w1 { block := n0, off := (3 : Nat) : Addr }) fun v17 =>
                    isK IntKind.i64 v17 fun i18 =>
                      callV Try.prog (9 : Nat) [Value.pointer (some a), Value.int IntKind.i64 i14, Value.int IntKind.u16 i16, Value.int IntKind.i64 i18] w1 fun v19 w20 =>
                        isK IntKind.i64 v19 fun i21 => R (Value.int IntKind.i64 i21) w20)
          (br (decide (i3 = (2 : Int)))
            (rd (World.cell? w1 { block := n0, off := (1 : Nat) : Addr }) fun v22 =>
              isK IntKind.i64 v22 fun i23 =>
                rd (World.cell? w1 { block := n0, off := (2 : Nat) : Addr }) fun v24 =>
                  isK IntKind.u16 v24 fun i25 =>
                    rd (World.cell? w1 { block := n0, off := (3 : Nat) : Addr }) fun v26 =>
                      isK IntKind.i64 v26 fun i27 =>
                        callV Try.prog (9 : Nat) [Value.pointer (some a), Value.int IntKind.i64 i23, Value.int IntKind.u16 i25, Value.int IntKind.i64 i27] w1 fun v28 w29 =>
                          isK IntKind.i64 v28 fun i30 => R (Value.int IntKind.i64 i30) w29)
            (br (decide (i3 = (3 : Int)))
              (rd (World.cell? w1 { block := n0, off := (1 : Nat) : Addr }) fun v31 =>
                isK IntKind.i64 v31 fun i32 =>
                  rd (World.cell? w1 { block := n0, off := (2 : Nat) : Addr }) fun v33 =>
                    isK IntKind.u16 v33 fun i34 =>
                      callV Try.prog (12 : Nat) [Value.pointer (some a), Value.int IntKind.i64 i32, Value.int IntKind.u16 i34] w1 fun v35 w36 =>
                        isK IntKind.i64 v35 fun i37 => R (Value.int IntKind.i64 i37) w36)
              (br (decide (i3 = (5 : Int)))
                (rd (World.cell? w1 { block := n0, off := (1 : Nat) : Addr }) fun v38 =>
                  isK IntKind.i64 v38 fun i39 =>
                    callV Try.prog (16 : Nat) [Value.pointer (some a), Value.int IntKind.i64 i39] w1 fun v40 w41 => R (Value.int IntKind.i64 (0 : Int)) w41)
                (R (Value.int IntKind.i64 (0 : Int)) w1)))))) :
  callV Try.prog 13 [Value.pointer (some a), Value.agg #[Value.int IntKind.i64 b0, Value.int IntKind.i64 b1, Value.int IntKind.u16 b2, Value.int IntKind.i64 b3]] w R :=
  vc_of hm noHints Try.func13 ent13 (by kernel_rfl) h

theorem vc15 (a : Addr) (b : Int) (w : World) (R : Value → World → Prop)
  (h : rd (World.cell? w a) fun v0 =>
  isK IntKind.u16 v0 fun i1 =>
    callV Try.prog (20 : Nat) [Value.int IntKind.u16 i1, Value.int IntKind.u16 b] w fun v2 w3 =>
      isK IntKind.i64 v2 fun i4 =>
        rd (World.cell? w3 a) fun v5 =>
          isK IntKind.u16 v5 fun i6 =>
            callV Try.prog (17 : Nat) [Value.int IntKind.u16 b, Value.int IntKind.u16 i6] w3 fun v7 w8 =>
              isB v7 fun t9 => br t9 (R (Value.bool true) w8) (br (decide ((0 : Int) ≤ i4)) (R (Value.bool (decide (i4 < (64 : Int)))) w8) (R (Value.bool false) w8))) :
  callV Try.prog 15 [Value.pointer (some a), Value.int IntKind.u16 b] w R :=
  vc_of hm noHints Try.func15 ent15 (by kernel_rfl) h

theorem vc16 (a : Addr) (b : Int) (w : World) (R : Value → World → Prop)
  (h : rd (World.cell? w a) fun v0 =>
  runs Try.prog (Instr.lookup (40 : Nat) v0 (Value.int IntKind.i64 b) false) w fun v1 w2 =>
    isP v1 fun o3 =>
      br (Option.isNone o3) (R (Value.tuple #[]) w2)
        (callV Try.prog (18 : Nat) [Value.pointer (some a), Value.pointer o3, Value.func (Fn.func (21 : Nat)) #[] #[]] w2 fun v4 w5 =>
          rd (World.cell? w5 a) fun v6 => runs Try.prog (Builtin.delete_ #[(40 : Nat), (3 : Nat)] (0 : Nat) #[v6, Value.int IntKind.i64 b]) w5 fun v7 w8 => R (Value.tuple #[]) w8)) :
  callV Try.prog 16 [Value.pointer (some a), Value.int IntKind.i64 b] w R :=
  vc_of hm noHints Try.func16 ent16 (by kernel_rfl) h

theorem vc17 (a : Int) (b : Int) (w : World) (R : Value → World → Prop)
  (h : callV Try.prog (20 : Nat) [Value.int IntKind.u16 a, Value.int IntKind.u16 b] w fun v0 w1 => isK IntKind.i64 v0 fun i2 => R (Value.bool (decide ((0 : Int) < i2))) w1) :
  callV Try.prog 17 [Value.int IntKind.u16 a, Value.int IntKind.u16 b] w R :=
  vc_of hm noHints Try.func17 ent17 (by kernel_rfl) h

theorem vc18 (a : Addr) (b : Addr) (c : Value) (w : World) (R : Value → World → Prop)
  (h : allocC w (Obj.cells #[Value.pointer (some a)] (24 : Nat)) fun n0 w1 =>
  rd (gd (Value.oneCell' c && true)) fun _x =>
    allocC w1 (Obj.cells #[c] (49 : Nat)) fun n2 w3 =>
      rd (World.cell? w3 (Addr.add b (1 : Nat))) fun v4 =>
        callV Try.prog (22 : Nat)
          [v4, Value.func (Fn.func (23 : Nat)) #[] #[Value.pointer (some { block := n2, off := (0 : Nat) : Addr }), Value.pointer (some { block := n0, off := (0 : Nat) : Addr })]]
          w3 fun v5 w6 => R (Value.tuple #[]) w6) :
  callV Try.prog 18 [Value.pointer (some a), Value.pointer (some b), c] w R :=
  vc_of hm noHints Try.func18 ent18 (by kernel_rfl) h

theorem vc19 (a : Int) (c0 : Addr) (w : World) (R : Value → World → Prop)
  (h : rd (World.cell? w c0) fun v0 => isP v0 fun o1 => callV Try.prog (15 : Nat) [Value.pointer o1, Value.int IntKind.u16 a] w fun v2 w3 => isB v2 fun t4 => R (Value.bool !t4) w3) :
  callV Try.prog 19 [Value.int IntKind.u16 a, Value.pointer (some c0)] w R :=
  vc_of hm noHints Try.func19 ent19 (by kernel_rfl) h

theorem vc20 (a : Int) (b : Int) (w : World) (R : Value → World → Prop)
  (h : R (Value.int IntKind.i64 (IntKind.wrap IntKind.i64 (IntKind.wrap IntKind.i16 (IntKind.wrap IntKind.u16 (a - b))))) w) :
  callV Try.prog 20 [Value.int IntKind.u16 a, Value.int IntKind.u16 b] w R :=
  vc_of hm noHints Try.func20 ent20 (by kernel_rfl) h

theorem vc21 (a : Int) (w : World) (R : Value → World → Prop)
  (h : R (Value.bool true) w) :
  callV Try.prog 21 [Value.int IntKind.u16 a] w R :=
  vc_of hm noHints Try.func21 ent21 (by kernel_rfl) h

theorem vc22 (a : Option Nat) (b : Value) (w : World) (R : Value → World → Prop)
  (h : runs Try.prog (Instr.range (45 : Nat) (Value.map a)) w fun v0 w1 =>
  loopC (alist []) w1 fun u2 u3 =>
    ∀ (u4 : Nat → Value) (w5 : World),
      u2 (alist []) w5 →
        runs Try.prog (Instr.next v0 false (0 : Nat)) w5 fun v7 w8 =>
          isTup v7 fun l9 =>
            rd l9[(0 : Nat)]? fun v10 =>
              isB v10 fun t11 =>
                br t11
                  (runs Try.prog (Instr.entry v0) w8 fun v12 w13 =>
                    isTup v12 fun l14 =>
                      rd l14[(0 : Nat)]? fun v15 =>
                        isK IntKind.u16 v15 fun i16 =>
                          isTup v12 fun l17 =>
                            rd l17[(1 : Nat)]? fun v18 =>
                              isK IntKind.i64 v18 fun i19 =>
                                isFn b fun f20 l21 l22 =>
                                  rd (fnId f20) fun n23 =>
                                    callV Try.prog n23 (l21 ++ [Value.int IntKind.u16 i16, Value.int IntKind.i64 i19] ++ l22) w13 fun v24 w25 =>
                                      isB v24 fun t26 =>
                                        br t26
                                          (runs Try.prog (Builtin.delete_ #[(45 : Nat), (26 : Nat)] (0 : Nat) #[Value.map a, Value.int IntKind.u16 i16]) w25 fun v27 w28 =>
                                            again u2 u3 (alist []) w28 (alist []) w5)
                                          (again u2 u3 (alist []) w25 (alist []) w5))
                  (R (Value.tuple #[]) w8)) :
  callV Try.prog 22 [Value.map a, b] w R :=
  vc_of hm ⟨fun _ => false, fun _ => .done, fun n => match n with | 1 => [] | _ => []⟩ Try.func22 ent22 (by kernel_rfl) h

theorem vc23 (a : Int) (b : Int) (c0 : Addr) (c1 : Addr) (w : World) (R : Value → World → Prop)
  (h : rd (World.cell? w c0) fun v0 =>
  isFn v0 fun f1 l2 l3 =>
    rd (fnId f1) fun n4 =>
      callV Try.prog n4 (l2 ++ [Value.int IntKind.u16 a] ++ l3) w fun v5 w6 =>
        isB v5 fun t7 =>
          br (!t7) (R (Value.bool false) w6)
            (rd (World.cell? w6 c1) fun v8 =>
              isP v8 fun o9 =>
                rd (nilChk (Value.pointer o9)) fun v10 =>
                  isPtr v10 fun a11 =>
                    rd (World.cell? w6 (Addr.add a11 (1 : Nat))) fun v12 =>
                      runs Try.prog (Builtin.delete_ #[(41 : Nat), (3 : Nat)] (0 : Nat) #[v12, Value.int IntKind.i64 b]) w6 fun v13 w14 => R (Value.bool true) w14)) :
  callV Try.prog 23 [Value.int IntKind.u16 a, Value.int IntKind.i64 b, Value.pointer (some c0), Value.pointer (some c1)] w R :=
  vc_of hm noHints Try.func23 ent23 (by kernel_rfl) h

end Go.Proofs.Ytfdbojnikoonbaa
