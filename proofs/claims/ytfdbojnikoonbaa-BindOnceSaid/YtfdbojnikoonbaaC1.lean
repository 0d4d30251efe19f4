/- The conditions of functions, written out: printed by a small program (VCDev.lean, vcgen.sh).  Conditions: none. -/
import Derived.Test.YtfdbojnikoonbaaTab
namespace Go.Proofs.Ytfdbojnikoonbaa
set_option linter.unusedSimpArgs false
set_option linter.unusedVariables false
open Go VC
theorem vc14 (a : Addr) (b : Int) (c : Int) (d : Int) (w : World) (R : Value → World → Prop)
  (h : callV Try.prog (11 : Nat) [Value.pointer (some a), Value.int IntKind.i64 b, Value.int IntKind.u16 c] w fun v0 w1 =>
  isTup v0 fun l2 =>
    rd l2[(0 : Nat)]? fun v3 =>
      isK IntKind.i64 v3 fun i4 =>
        isTup v0 fun l5 =>
          rd l5[(1 : Nat)]? fun v6 =>
            isK IntKind.i64 v6 fun i7 =>
              br (!decide (i7 = (6 : Int))) (R (Value.int IntKind.i64 (7 : Int)) w1)
                (rd (World.cell? w1 a) fun v8 =>
                  runs Try.prog (Instr.lookup (40 : Nat) v8 (Value.int IntKind.i64 b) false) w1 fun v9 w10 =>
                    isP v9 fun o11 =>
                      allocC w10 (Obj.cells #[Value.pointer none] (44 : Nat)) fun n12 w13 =>
                        stC w13 { block := n12, off := (0 : Nat) : Addr } [Value.pointer o11] fun w14 =>
                          cutC
                            (fun u15 =>
                              rd (World.cell? w14 { block := n12, off := (0 : Nat) : Addr }) fun v16 =>
                                isP v16 fun o17 =>
                                  br (Option.isNone o17)
                                    (allocC w14 (Obj.map #[] (0 : Nat)) fun n18 w19 =>
                                      allocC w19 (Obj.cells #[Value.int IntKind.u16 c, Value.map (some n18)] (47 : Nat)) fun n20 w21 =>
                                        stC w21 { block := n12, off := (0 : Nat) : Addr } [Value.pointer (some { block := n20, off := (0 : Nat) : Addr })] fun w22 =>
                                          heldC (World.drew w22) fun u23 =>
                                            (∀ (w24 : World), u23 w24 → Value.pointer (some a) = Value.pointer (some a) ∧ w24 = w24) ∧
                                              (∀ (w26 : World), u23 w26 → Value.pointer (some a) = Value.pointer (some a) ∧ w26 = w26) ∧
                                                (∀ (w28 : World), u23 w28 → Value.pointer (some a) = Value.pointer (some a) ∧ w28 = w28) ∧
                                                  rd (World.cell? (World.drew w22) a) fun v30 =>
                                                    (∀ (w31 : World), u23 w31 → rd (World.cell? w31 a) fun v33 => v33 = v30 ∧ w31 = w31) ∧
                                                      (∀ (w34 : World), u23 w34 → Value.int IntKind.i64 b = Value.int IntKind.i64 b ∧ w34 = w34) ∧
                                                        rd (World.cell? (World.drew w22) { block := n12, off := (0 : Nat) : Addr }) fun v36 =>
                                                          (∀ (w37 : World),
                                                              u23 w37 → rd (World.cell? w37 { block := n12, off := (0 : Nat) : Addr }) fun v39 => v39 = v36 ∧ w37 = w37) ∧
                                                            isP v36 fun o40 =>
                                                              runsU Try.prog (Instr.mapUpdate (40 : Nat) v30 (Value.int IntKind.i64 b) (Value.pointer o40)) (World.drew w22)
                                                                fun w41 => u23 w41 ∧ u15 (alist []) w41)
                                    (u15 (alist []) w14))
                            fun u42 =>
                            ∀ (u43 : Nat → Value) (w44 : World),
                              u42 (alist []) w44 →
                                rd (World.cell? w44 { block := n12, off := (0 : Nat) : Addr }) fun v46 =>
                                  isP v46 fun o47 =>
                                    rd (nilChk (Value.pointer o47)) fun v48 =>
                                      isPtr v48 fun a49 =>
                                        rd (World.cell? w44 (Addr.add a49 (1 : Nat))) fun v50 =>
                                          runsU Try.prog (Instr.mapUpdate (45 : Nat) v50 (Value.int IntKind.u16 c) (Value.int IntKind.i64 d)) w44 fun w51 =>
                                            cutC
                                              (fun u52 =>
                                                br (decide ((0 : Int) < d))
                                                  (rd (World.cell? w51 (Addr.add a (1 : Nat))) fun v53 =>
                                                    runsU Try.prog (Instr.mapUpdate (41 : Nat) v53 (Value.int IntKind.i64 d) (Value.bool true)) w51 fun w54 => u52 (alist []) w54)
                                                  (u52 (alist []) w51))
                                              fun u55 =>
                                              ∀ (u56 : Nat → Value) (w57 : World),
                                                u55 (alist []) w57 →
                                                  rd (World.cell? w57 { block := n12, off := (0 : Nat) : Addr }) fun v59 =>
                                                    isP v59 fun o60 =>
                                                      rd (nilChk (Value.pointer o60)) fun v61 =>
                                                        isPtr v61 fun a62 =>
                                                          rd (World.cell? w57 a62) fun v63 =>
                                                            isK IntKind.u16 v63 fun i64 =>
                                                              callV Try.prog (17 : Nat) [Value.int IntKind.u16 c, Value.int IntKind.u16 i64] w57 fun v65 w66 =>
                                                                isB v65 fun t67 =>
                                                                  br t67
                                                                    (rd (World.cell? w66 { block := n12, off := (0 : Nat) : Addr }) fun v68 =>
                                                                      isP v68 fun o69 =>
                                                                        rd (nilChk (Value.pointer o69)) fun v70 =>
                                                                          isPtr v70 fun a71 =>
                                                                            stC w66 a71 [Value.int IntKind.u16 c] fun w72 =>
                                                                              rd (World.cell? w72 { block := n12, off := (0 : Nat) : Addr }) fun v73 =>
                                                                                isP v73 fun o74 =>
                                                                                  callV Try.prog (18 : Nat)
                                                                                    [Value.pointer (some a), Value.pointer o74,
                                                                                      Value.func (Fn.func (19 : Nat)) #[]
                                                                                        #[Value.pointer (some { block := n12, off := (0 : Nat) : Addr })]]
                                                                                    w72 fun v75 w76 => R (Value.int IntKind.i64 (0 : Int)) w76)
                                                                    (R (Value.int IntKind.i64 (0 : Int)) w66))) :
  callV Try.prog 14 [Value.pointer (some a), Value.int IntKind.i64 b, Value.int IntKind.u16 c, Value.int IntKind.i64 d] w R :=
  vc_of hm ⟨fun n => match n with | 8 => true | 11 => true | _ => false, fun n => match n with | 7 => .take 0 (.take 1 (.take 2 (.take 3 (.take 4 (.take 5 (.one 6 (.done))))))) | _ => .done, fun n => match n with | 8 => [] | 11 => [] | _ => []⟩ Try.func14 ent14 (by kernel_rfl) h

theorem vc7 (w : World) (R : Value → World → Prop)
  (h : callV Try.prog (8 : Nat) [] w fun v0 w1 =>
  isP v0 fun o2 =>
    br (Option.isNone o2) (R (Value.bool false) w1)
      (callV Try.prog (9 : Nat) [Value.pointer o2, Value.int IntKind.i64 (1 : Int), Value.int IntKind.u16 (5 : Int), Value.int IntKind.i64 (9 : Int)] w1 fun v3 w4 =>
        isK IntKind.i64 v3 fun i5 =>
          callV Try.prog (9 : Nat) [Value.pointer o2, Value.int IntKind.i64 (2 : Int), Value.int IntKind.u16 (5 : Int), Value.int IntKind.i64 (9 : Int)] w4 fun v6 w7 =>
            isK IntKind.i64 v6 fun i8 =>
              callV Try.prog (9 : Nat) [Value.pointer o2, Value.int IntKind.i64 (1 : Int), Value.int IntKind.u16 (5 : Int), Value.int IntKind.i64 (8 : Int)] w7 fun v9 w10 =>
                isK IntKind.i64 v9 fun i11 =>
                  callV Try.prog (11 : Nat) [Value.pointer o2, Value.int IntKind.i64 (1 : Int), Value.int IntKind.u16 (5 : Int)] w10 fun v12 w13 =>
                    isTup v12 fun l14 =>
                      rd l14[(0 : Nat)]? fun v15 =>
                        isK IntKind.i64 v15 fun i16 =>
                          isTup v12 fun l17 =>
                            rd l17[(1 : Nat)]? fun v18 =>
                              isK IntKind.i64 v18 fun i19 =>
                                callV Try.prog (11 : Nat) [Value.pointer o2, Value.int IntKind.i64 (1 : Int), Value.int IntKind.u16 (6 : Int)] w13 fun v20 w21 =>
                                  isTup v20 fun l22 =>
                                    rd l22[(0 : Nat)]? fun v23 =>
                                      isK IntKind.i64 v23 fun i24 =>
                                        isTup v20 fun l25 =>
                                          rd l25[(1 : Nat)]? fun v26 =>
                                            isK IntKind.i64 v26 fun i27 =>
                                              callV Try.prog (9 : Nat)
                                                [Value.pointer o2, Value.int IntKind.i64 (1 : Int), Value.int IntKind.u16 (69 : Int), Value.int IntKind.i64 (10 : Int)] w21
                                                fun v28 w29 =>
                                                isK IntKind.i64 v28 fun i30 =>
                                                  callV Try.prog (11 : Nat) [Value.pointer o2, Value.int IntKind.i64 (1 : Int), Value.int IntKind.u16 (5 : Int)] w29 fun v31 w32 =>
                                                    isTup v31 fun l33 =>
                                                      rd l33[(0 : Nat)]? fun v34 =>
                                                        isK IntKind.i64 v34 fun i35 =>
                                                          isTup v31 fun l36 =>
                                                            rd l36[(1 : Nat)]? fun v37 =>
                                                              isK IntKind.i64 v37 fun i38 =>
                                                                br (decide (i5 = (0 : Int)))
                                                                  (br (decide (i8 = (1 : Int)))
                                                                    (br (decide (i11 = (7 : Int)))
                                                                      (br (decide (i16 = (9 : Int)))
                                                                        (br (decide (i19 = (0 : Int)))
                                                                          (br (decide (i27 = (6 : Int)))
                                                                            (br (decide (i38 = (7 : Int)))
                                                                              (callV Try.prog (10 : Nat) [Value.pointer o2] w32 fun v39 w40 =>
                                                                                isK IntKind.i64 v39 fun i41 => R (Value.bool (decide (i41 = (1 : Int)))) w40)
                                                                              (R (Value.bool false) w32))
                                                                            (R (Value.bool false) w32))
                                                                          (R (Value.bool false) w32))
                                                                        (R (Value.bool false) w32))
                                                                      (R (Value.bool false) w32))
                                                                    (R (Value.bool false) w32))
                                                                  (R (Value.bool false) w32))) :
  callV Try.prog 7 [] w R :=
  vc_of hm noHints Try.func7 ent7 (by kernel_rfl) h

end Go.Proofs.Ytfdbojnikoonbaa
