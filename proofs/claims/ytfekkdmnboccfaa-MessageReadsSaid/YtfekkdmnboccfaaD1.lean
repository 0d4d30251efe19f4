/- The conditions of functions, written out: printed by a small program (VCDev.lean, vcgen.sh).  Conditions: none. -/
import Derived.Test.YtfekkdmnboccfaaTab
namespace Go.Proofs.Ytfekkdmnboccfaa
set_option linter.unusedSimpArgs false
set_option linter.unusedVariables false
open Go VC
theorem vc17 (a0 : Int) (a1 : Int) (a20 : Int) (a21 : Int) (a22 : Int) (a23 : Int) (a24 : Int) (a3 : Int) (a4 : Int) (a5 : Int) (a60 : Int) (a61 : Int) (a62 : Int) (a7 : Int) (a80 : Int) (a81 : Int) (a82 : Int) (a90 : Int) (a91 : Int) (a92 : Int) (a10 : Int) (a11 : Int) (a12p : Option Addr) (a12n : Nat) (a12c : Nat) (w : World) (R : Value → World → Prop)
  (h : allocC w
  (Obj.cells
    #[Value.int IntKind.i64 a0, Value.int IntKind.u16 a1, Value.int IntKind.u16 a20, Value.int IntKind.u8 a21, Value.int IntKind.i8 a22, Value.int IntKind.i8 a23,
      Value.int IntKind.i64 a24, Value.int IntKind.u16 a3, Value.int IntKind.i64 a4, Value.int IntKind.i64 a5, Value.int IntKind.i64 a60, Value.int IntKind.i64 a61,
      Value.int IntKind.i64 a62, Value.int IntKind.i64 a7, Value.int IntKind.i64 a80, Value.int IntKind.i64 a81, Value.int IntKind.i64 a82, Value.int IntKind.i64 a90,
      Value.int IntKind.i64 a91, Value.int IntKind.i64 a92, Value.int IntKind.u32 a10, Value.int IntKind.u32 a11, Value.slice a12p a12n a12c]
    (40 : Nat))
  fun n0 w1 =>
  cutC
    (fun u2 =>
      heldC (World.drew w1) fun u3 =>
        rd (cellsAt (World.drew w1) { block := n0, off := (0 : Nat) : Addr } (23 : Nat)) fun l4 =>
          (∀ (w5 : World),
              u3 w5 → rd (cellsAt w5 { block := n0, off := (0 : Nat) : Addr } (23 : Nat)) fun l7 => Value.agg (List.toArray l7) = Value.agg (List.toArray l4) ∧ w5 = w5) ∧
            rd (cellsAt (World.drew w1) { block := n0, off := (0 : Nat) : Addr } (23 : Nat)) fun l8 =>
              (∀ (w9 : World),
                  u3 w9 → rd (cellsAt w9 { block := n0, off := (0 : Nat) : Addr } (23 : Nat)) fun l11 => Value.agg (List.toArray l11) = Value.agg (List.toArray l8) ∧ w9 = w9) ∧
                callV Try.prog (28 : Nat) [Value.agg (List.toArray l8)] (World.drew w1) fun v12 w13 =>
                  u3 w13 ∧
                    callV Try.prog (27 : Nat) [Value.agg (List.toArray l4), v12] w13 fun v14 w15 =>
                      isB v14 fun t16 => u3 w15 ∧ (∀ (w17 : World), u3 w17 → Value.bool t16 = Value.bool t16 ∧ w17 = w17) ∧ u2 (alist [((3 : Nat), Value.bool t16)]) w15)
    fun u19 =>
    ∀ (u20 : Nat → Value) (w21 : World),
      u19 (alist [((3 : Nat), u20 (3 : Nat))]) w21 →
        cutC
          (fun u23 =>
            isB (u20 (3 : Nat)) fun t24 =>
              br (!t24) (R (Value.bool false) w21)
                (rd (World.cell? w21 { block := n0, off := (0 : Nat) : Addr }) fun v25 =>
                  isK IntKind.i64 v25 fun i26 =>
                    br (decide (i26 < (1 : Int))) (R (Value.bool false) w21)
                      (rd (World.cell? w21 { block := n0, off := (0 : Nat) : Addr }) fun v27 =>
                        isK IntKind.i64 v27 fun i28 => br (decide ((9 : Int) < i28)) (R (Value.bool false) w21) (u23 (alist []) w21))))
          fun u29 =>
          ∀ (u30 : Nat → Value) (w31 : World),
            u29 (alist []) w31 →
              rd (World.cell? w31 { block := n0, off := (0 : Nat) : Addr }) fun v33 =>
                isK IntKind.i64 v33 fun i34 =>
                  br (decide (i34 = (2 : Int)))
                    (rd (World.cell? w31 { block := n0, off := (3 : Nat) : Addr }) fun v35 =>
                      isK IntKind.u8 v35 fun i36 =>
                        br (decide (i36 < (4 : Int)))
                          (rd (World.cell? w31 { block := n0, off := (6 : Nat) : Addr }) fun v37 =>
                            isK IntKind.i64 v37 fun i38 =>
                              br (decide ((1 : Int) ≤ i38))
                                (rd (World.cell? w31 { block := n0, off := (6 : Nat) : Addr }) fun v39 =>
                                  isK IntKind.i64 v39 fun i40 => R (Value.bool (decide (i40 ≤ (8 : Int)))) w31)
                                (R (Value.bool false) w31))
                          (R (Value.bool false) w31))
                    (br (decide (i34 = (3 : Int)))
                      (rd (World.cell? w31 { block := n0, off := (9 : Nat) : Addr }) fun v41 =>
                        isK IntKind.i64 v41 fun i42 =>
                          br (decide (i42 = (0 : Int)))
                            (rd (cellsAt w31 { block := n0, off := (10 : Nat) : Addr } (3 : Nat)) fun l43 =>
                              callV Try.prog (29 : Nat) [Value.agg (List.toArray l43), Value.int IntKind.i64 (-65536 : Int), Value.int IntKind.i64 (65536 : Int)] w31 fun v44 w45 =>
                                isB v44 fun t46 => R (Value.bool t46) w45)
                            (rd (World.cell? w31 { block := n0, off := (9 : Nat) : Addr }) fun v47 =>
                              isK IntKind.i64 v47 fun i48 =>
                                br (decide (i48 = (1 : Int)))
                                  (rd (cellsAt w31 { block := n0, off := (10 : Nat) : Addr } (3 : Nat)) fun l49 =>
                                    callV Try.prog (29 : Nat) [Value.agg (List.toArray l49), Value.int IntKind.i64 (-65536 : Int), Value.int IntKind.i64 (65536 : Int)] w31
                                      fun v50 w51 => isB v50 fun t52 => R (Value.bool t52) w51)
                                  (R (Value.bool false) w31)))
                      (br (decide (i34 = (5 : Int)))
                        (rd (World.cell? w31 { block := n0, off := (8 : Nat) : Addr }) fun v53 =>
                          isK IntKind.i64 v53 fun i54 =>
                            br (decide ((1 : Int) ≤ i54))
                              (rd (World.cell? w31 { block := n0, off := (8 : Nat) : Addr }) fun v55 =>
                                isK IntKind.i64 v55 fun i56 => R (Value.bool (decide (i56 ≤ (2147483647 : Int)))) w31)
                              (R (Value.bool false) w31))
                        (br (decide (i34 = (7 : Int)))
                          (rd (World.cell? w31 { block := n0, off := (8 : Nat) : Addr }) fun v57 =>
                            isK IntKind.i64 v57 fun i58 =>
                              br (decide ((1 : Int) ≤ i58))
                                (rd (World.cell? w31 { block := n0, off := (8 : Nat) : Addr }) fun v59 =>
                                  isK IntKind.i64 v59 fun i60 => R (Value.bool (decide (i60 ≤ (2147483647 : Int)))) w31)
                                (R (Value.bool false) w31))
                          (br (decide (i34 = (6 : Int)))
                            (rd (cellsAt w31 { block := n0, off := (14 : Nat) : Addr } (3 : Nat)) fun l61 =>
                              callV Try.prog (29 : Nat) [Value.agg (List.toArray l61), Value.int IntKind.i64 (-2147483648 : Int), Value.int IntKind.i64 (2147483647 : Int)] w31
                                fun v62 w63 =>
                                isB v62 fun t64 =>
                                  br t64
                                    (rd (cellsAt w63 { block := n0, off := (17 : Nat) : Addr } (3 : Nat)) fun l65 =>
                                      callV Try.prog (29 : Nat) [Value.agg (List.toArray l65), Value.int IntKind.i64 (-2147483648 : Int), Value.int IntKind.i64 (2147483647 : Int)]
                                        w63 fun v66 w67 => isB v66 fun t68 => R (Value.bool t68) w67)
                                    (R (Value.bool false) w63))
                            (br (decide (i34 = (8 : Int)))
                              (rd (World.cell? w31 { block := n0, off := (13 : Nat) : Addr }) fun v69 =>
                                isK IntKind.i64 v69 fun i70 =>
                                  br (decide ((1 : Int) ≤ i70))
                                    (rd (World.cell? w31 { block := n0, off := (13 : Nat) : Addr }) fun v71 =>
                                      isK IntKind.i64 v71 fun i72 => R (Value.bool (decide (i72 ≤ (10 : Int)))) w31)
                                    (R (Value.bool false) w31))
                              (br (decide (i34 = (9 : Int)))
                                (rd (World.cell? w31 { block := n0, off := (22 : Nat) : Addr }) fun v73 =>
                                  isSl v73 fun o74 n75 n76 => R (Value.bool (decide ((↑n75 : Int) ≤ (1023 : Int)))) w31)
                                (R (Value.bool true) w31)))))))) :
  callV Try.prog 17 [Value.agg #[Value.int IntKind.i64 a0, Value.int IntKind.u16 a1, Value.int IntKind.u16 a20, Value.int IntKind.u8 a21, Value.int IntKind.i8 a22, Value.int IntKind.i8 a23, Value.int IntKind.i64 a24, Value.int IntKind.u16 a3, Value.int IntKind.i64 a4, Value.int IntKind.i64 a5, Value.int IntKind.i64 a60, Value.int IntKind.i64 a61, Value.int IntKind.i64 a62, Value.int IntKind.i64 a7, Value.int IntKind.i64 a80, Value.int IntKind.i64 a81, Value.int IntKind.i64 a82, Value.int IntKind.i64 a90, Value.int IntKind.i64 a91, Value.int IntKind.i64 a92, Value.int IntKind.u32 a10, Value.int IntKind.u32 a11, Value.slice a12p a12n a12c]] w R :=
  vc_of hm ⟨fun n => match n with | 2 => true | 4 => true | _ => false, fun n => match n with | 1 => .take 0 (.take 1 (.one 2 (.one 3 (.take 4 (.done))))) | _ => .done, fun n => match n with | 2 => [3] | 4 => [] | _ => []⟩ Try.func17 ent17 (by kernel_rfl) h

theorem vc28 (a0 : Int) (a1 : Int) (a20 : Int) (a21 : Int) (a22 : Int) (a23 : Int) (a24 : Int) (a3 : Int) (a4 : Int) (a5 : Int) (a60 : Int) (a61 : Int) (a62 : Int) (a7 : Int) (a80 : Int) (a81 : Int) (a82 : Int) (a90 : Int) (a91 : Int) (a92 : Int) (a10 : Int) (a11 : Int) (a12p : Option Addr) (a12n : Nat) (a12c : Nat) (w : World) (R : Value → World → Prop)
  (h : allocC w
  (Obj.cells
    #[Value.int IntKind.i64 a0, Value.int IntKind.u16 a1, Value.int IntKind.u16 a20, Value.int IntKind.u8 a21, Value.int IntKind.i8 a22, Value.int IntKind.i8 a23,
      Value.int IntKind.i64 a24, Value.int IntKind.u16 a3, Value.int IntKind.i64 a4, Value.int IntKind.i64 a5, Value.int IntKind.i64 a60, Value.int IntKind.i64 a61,
      Value.int IntKind.i64 a62, Value.int IntKind.i64 a7, Value.int IntKind.i64 a80, Value.int IntKind.i64 a81, Value.int IntKind.i64 a82, Value.int IntKind.i64 a90,
      Value.int IntKind.i64 a91, Value.int IntKind.i64 a92, Value.int IntKind.u32 a10, Value.int IntKind.u32 a11, Value.slice a12p a12n a12c]
    (40 : Nat))
  fun n0 w1 =>
  allocC w1
    (Obj.cells
      #[Value.int IntKind.i64 (0 : Int), Value.int IntKind.u16 (0 : Int), Value.int IntKind.u16 (0 : Int), Value.int IntKind.u8 (0 : Int), Value.int IntKind.i8 (0 : Int),
        Value.int IntKind.i8 (0 : Int), Value.int IntKind.i64 (0 : Int), Value.int IntKind.u16 (0 : Int), Value.int IntKind.i64 (0 : Int), Value.int IntKind.i64 (0 : Int),
        Value.int IntKind.i64 (0 : Int), Value.int IntKind.i64 (0 : Int), Value.int IntKind.i64 (0 : Int), Value.int IntKind.i64 (0 : Int), Value.int IntKind.i64 (0 : Int),
        Value.int IntKind.i64 (0 : Int), Value.int IntKind.i64 (0 : Int), Value.int IntKind.i64 (0 : Int), Value.int IntKind.i64 (0 : Int), Value.int IntKind.i64 (0 : Int),
        Value.int IntKind.u32 (0 : Int), Value.int IntKind.u32 (0 : Int), Value.slice none (0 : Nat) (0 : Nat)]
      (40 : Nat))
    fun n2 w3 =>
    rd (World.cell? w3 { block := n0, off := (0 : Nat) : Addr }) fun v4 =>
      isK IntKind.i64 v4 fun i5 =>
        allocC w3
          (Obj.cells
            #[Value.int IntKind.i64 (0 : Int), Value.int IntKind.u16 (0 : Int), Value.int IntKind.u16 (0 : Int), Value.int IntKind.u8 (0 : Int), Value.int IntKind.i8 (0 : Int),
              Value.int IntKind.i8 (0 : Int), Value.int IntKind.i64 (0 : Int), Value.int IntKind.u16 (0 : Int), Value.int IntKind.i64 (0 : Int), Value.int IntKind.i64 (0 : Int),
              Value.int IntKind.i64 (0 : Int), Value.int IntKind.i64 (0 : Int), Value.int IntKind.i64 (0 : Int), Value.int IntKind.i64 (0 : Int), Value.int IntKind.i64 (0 : Int),
              Value.int IntKind.i64 (0 : Int), Value.int IntKind.i64 (0 : Int), Value.int IntKind.i64 (0 : Int), Value.int IntKind.i64 (0 : Int), Value.int IntKind.i64 (0 : Int),
              Value.int IntKind.u32 (0 : Int), Value.int IntKind.u32 (0 : Int), Value.slice none (0 : Nat) (0 : Nat)]
            (40 : Nat))
          fun n6 w7 =>
          stC w7 { block := n6, off := (0 : Nat) : Addr }
            [Value.int IntKind.i64 i5, Value.int IntKind.u16 (0 : Int), Value.int IntKind.u16 (0 : Int), Value.int IntKind.u8 (0 : Int), Value.int IntKind.i8 (0 : Int),
              Value.int IntKind.i8 (0 : Int), Value.int IntKind.i64 (0 : Int), Value.int IntKind.u16 (0 : Int), Value.int IntKind.i64 (0 : Int), Value.int IntKind.i64 (0 : Int),
              Value.int IntKind.i64 (0 : Int), Value.int IntKind.i64 (0 : Int), Value.int IntKind.i64 (0 : Int), Value.int IntKind.i64 (0 : Int), Value.int IntKind.i64 (0 : Int),
              Value.int IntKind.i64 (0 : Int), Value.int IntKind.i64 (0 : Int), Value.int IntKind.i64 (0 : Int), Value.int IntKind.i64 (0 : Int), Value.int IntKind.i64 (0 : Int),
              Value.int IntKind.u32 (0 : Int), Value.int IntKind.u32 (0 : Int), Value.slice none (0 : Nat) (0 : Nat)]
            fun w8 =>
            cutC
              (fun u9 =>
                rd (World.cell? w8 { block := n0, off := (0 : Nat) : Addr }) fun v10 =>
                  isK IntKind.i64 v10 fun i11 =>
                    br (decide (i11 = (2 : Int)))
                      (rd (cellsAt w8 { block := n0, off := (2 : Nat) : Addr } (5 : Nat)) fun l12 =>
                        rd (gd (List.length l12 == (5 : Nat))) fun _x => stC w8 { block := n6, off := (2 : Nat) : Addr } l12 fun w13 => u9 (alist []) w13)
                      (br (decide (i11 = (3 : Int)))
                        (rd (World.cell? w8 { block := n0, off := (7 : Nat) : Addr }) fun v14 =>
                          isK IntKind.u16 v14 fun i15 =>
                            stC w8 { block := n6, off := (7 : Nat) : Addr } [Value.int IntKind.u16 i15] fun w16 =>
                              rd (World.cell? w16 { block := n0, off := (9 : Nat) : Addr }) fun v17 =>
                                isK IntKind.i64 v17 fun i18 =>
                                  stC w16 { block := n6, off := (9 : Nat) : Addr } [Value.int IntKind.i64 i18] fun w19 =>
                                    rd (cellsAt w19 { block := n0, off := (10 : Nat) : Addr } (3 : Nat)) fun l20 =>
                                      rd (gd (List.length l20 == (3 : Nat))) fun _x => stC w19 { block := n6, off := (10 : Nat) : Addr } l20 fun w21 => u9 (alist []) w21)
                        (br (decide (i11 = (5 : Int)))
                          (rd (World.cell? w8 { block := n0, off := (8 : Nat) : Addr }) fun v22 =>
                            isK IntKind.i64 v22 fun i23 => stC w8 { block := n6, off := (8 : Nat) : Addr } [Value.int IntKind.i64 i23] fun w24 => u9 (alist []) w24)
                          (br (decide (i11 = (6 : Int)))
                            (rd (World.cell? w8 { block := n0, off := (1 : Nat) : Addr }) fun v25 =>
                              isK IntKind.u16 v25 fun i26 =>
                                stC w8 { block := n6, off := (1 : Nat) : Addr } [Value.int IntKind.u16 i26] fun w27 =>
                                  rd (cellsAt w27 { block := n0, off := (14 : Nat) : Addr } (3 : Nat)) fun l28 =>
                                    rd (gd (List.length l28 == (3 : Nat))) fun _x =>
                                      stC w27 { block := n6, off := (14 : Nat) : Addr } l28 fun w29 =>
                                        rd (cellsAt w29 { block := n0, off := (17 : Nat) : Addr } (3 : Nat)) fun l30 =>
                                          rd (gd (List.length l30 == (3 : Nat))) fun _x => stC w29 { block := n6, off := (17 : Nat) : Addr } l30 fun w31 => u9 (alist []) w31)
                            (br (decide (i11 = (7 : Int)))
                              (rd (World.cell? w8 { block := n0, off := (7 : Nat) : Addr }) fun v32 =>
                                isK IntKind.u16 v32 fun i33 =>
                                  stC w8 { block := n6, off := (7 : Nat) : Addr } [Value.int IntKind.u16 i33] fun w34 =>
                                    rd (World.cell? w34 { block := n0, off := (8 : Nat) : Addr }) fun v35 =>
                                      isK IntKind.i64 v35 fun i36 => stC w34 { block := n6, off := (8 : Nat) : Addr } [Value.int IntKind.i64 i36] fun w37 => u9 (alist []) w37)
                              (br (decide (i11 = (8 : Int)))
                                (rd (World.cell? w8 { block := n0, off := (7 : Nat) : Addr }) fun v38 =>
                                  isK IntKind.u16 v38 fun i39 =>
                                    stC w8 { block := n6, off := (7 : Nat) : Addr } [Value.int IntKind.u16 i39] fun w40 =>
                                      rd (World.cell? w40 { block := n0, off := (13 : Nat) : Addr }) fun v41 =>
                                        isK IntKind.i64 v41 fun i42 => stC w40 { block := n6, off := (13 : Nat) : Addr } [Value.int IntKind.i64 i42] fun w43 => u9 (alist []) w43)
                                (br (decide (i11 = (9 : Int)))
                                  (rd (World.cell? w8 { block := n0, off := (20 : Nat) : Addr }) fun v44 =>
                                    isK IntKind.u32 v44 fun i45 =>
                                      stC w8 { block := n6, off := (20 : Nat) : Addr } [Value.int IntKind.u32 i45] fun w46 =>
                                        rd (World.cell? w46 { block := n0, off := (21 : Nat) : Addr }) fun v47 =>
                                          isK IntKind.u32 v47 fun i48 =>
                                            stC w46 { block := n6, off := (21 : Nat) : Addr } [Value.int IntKind.u32 i48] fun w49 =>
                                              rd (World.cell? w49 { block := n0, off := (22 : Nat) : Addr }) fun v50 =>
                                                isSl v50 fun o51 n52 n53 =>
                                                  stC w49 { block := n6, off := (22 : Nat) : Addr } [Value.slice o51 n52 n53] fun w54 => u9 (alist []) w54)
                                  (u9 (alist []) w8))))))))
              fun u55 =>
              ∀ (u56 : Nat → Value) (w57 : World),
                u55 (alist []) w57 →
                  rd (cellsAt w57 { block := n6, off := (0 : Nat) : Addr } (23 : Nat)) fun l59 =>
                    rd (gd (List.length l59 == (23 : Nat))) fun _x =>
                      stC w57 { block := n2, off := (0 : Nat) : Addr } l59 fun w60 =>
                        rd (cellsAt w60 { block := n2, off := (0 : Nat) : Addr } (23 : Nat)) fun l61 => R (Value.agg (List.toArray l61)) w60) :
  callV Try.prog 28 [Value.agg #[Value.int IntKind.i64 a0, Value.int IntKind.u16 a1, Value.int IntKind.u16 a20, Value.int IntKind.u8 a21, Value.int IntKind.i8 a22, Value.int IntKind.i8 a23, Value.int IntKind.i64 a24, Value.int IntKind.u16 a3, Value.int IntKind.i64 a4, Value.int IntKind.i64 a5, Value.int IntKind.i64 a60, Value.int IntKind.i64 a61, Value.int IntKind.i64 a62, Value.int IntKind.i64 a7, Value.int IntKind.i64 a80, Value.int IntKind.i64 a81, Value.int IntKind.i64 a82, Value.int IntKind.i64 a90, Value.int IntKind.i64 a91, Value.int IntKind.i64 a92, Value.int IntKind.u32 a10, Value.int IntKind.u32 a11, Value.slice a12p a12n a12c]] w R :=
  vc_of hm ⟨fun n => match n with | 25 => true | _ => false, fun _ => .done, fun n => match n with | 25 => [] | _ => []⟩ Try.func28 ent28 (by kernel_rfl) h

theorem vc48 (a0 : Int) (a1 : Int) (a20 : Int) (a21 : Int) (a22 : Int) (a23 : Int) (a24 : Int) (a3 : Int) (a4 : Int) (a5 : Int) (a60 : Int) (a61 : Int) (a62 : Int) (a7 : Int) (a80 : Int) (a81 : Int) (a82 : Int) (a90 : Int) (a91 : Int) (a92 : Int) (a10 : Int) (a11 : Int) (a12p : Option Addr) (a12n : Nat) (a12c : Nat) (w : World) (R : Value → World → Prop)
  (h : allocC w
  (Obj.cells
    #[Value.int IntKind.i64 a0, Value.int IntKind.u16 a1, Value.int IntKind.u16 a20, Value.int IntKind.u8 a21, Value.int IntKind.i8 a22, Value.int IntKind.i8 a23,
      Value.int IntKind.i64 a24, Value.int IntKind.u16 a3, Value.int IntKind.i64 a4, Value.int IntKind.i64 a5, Value.int IntKind.i64 a60, Value.int IntKind.i64 a61,
      Value.int IntKind.i64 a62, Value.int IntKind.i64 a7, Value.int IntKind.i64 a80, Value.int IntKind.i64 a81, Value.int IntKind.i64 a82, Value.int IntKind.i64 a90,
      Value.int IntKind.i64 a91, Value.int IntKind.i64 a92, Value.int IntKind.u32 a10, Value.int IntKind.u32 a11, Value.slice a12p a12n a12c]
    (40 : Nat))
  fun n0 w1 =>
  rd (World.cell? w1 { block := n0, off := (0 : Nat) : Addr }) fun v2 =>
    isK IntKind.i64 v2 fun i3 =>
      callV Try.prog (47 : Nat) [Value.int IntKind.u64 (IntKind.wrap IntKind.u64 i3), Value.int IntKind.i64 (4 : Int)] w1 fun v4 w5 =>
        isStr v4 fun x6 =>
          rd (World.cell? w5 { block := n0, off := (7 : Nat) : Addr }) fun v7 =>
            isK IntKind.u16 v7 fun i8 =>
              callV Try.prog (47 : Nat) [Value.int IntKind.u64 (IntKind.wrap IntKind.u64 i8), Value.int IntKind.i64 (16 : Int)] w5 fun v9 w10 =>
                isStr v9 fun x11 =>
                  rd (World.cell? w10 { block := n0, off := (0 : Nat) : Addr }) fun v12 =>
                    isK IntKind.i64 v12 fun i13 =>
                      br (decide (i13 = (2 : Int)))
                        (rd (cellsAt w10 { block := n0, off := (2 : Nat) : Addr } (5 : Nat)) fun l14 =>
                          allocC w10
                            (Obj.cells
                              #[Value.int IntKind.u16 (0 : Int), Value.int IntKind.u8 (0 : Int), Value.int IntKind.i8 (0 : Int), Value.int IntKind.i8 (0 : Int),
                                Value.int IntKind.i64 (0 : Int)]
                              (35 : Nat))
                            fun n15 w16 =>
                            rd (gd (List.length l14 == (5 : Nat))) fun _x =>
                              stC w16 { block := n15, off := (0 : Nat) : Addr } l14 fun w17 =>
                                heldC (World.drew w17) fun u18 =>
                                  (∀ (w19 : World), u18 w19 → Value.string x6 = Value.string x6 ∧ w19 = w19) ∧
                                    (∀ (w21 : World),
                                        u18 w21 →
                                          Value.pointer (some { block := n15, off := (0 : Nat) : Addr }) = Value.pointer (some { block := n15, off := (0 : Nat) : Addr }) ∧
                                            w21 = w21) ∧
                                      rd (World.cell? (World.drew w17) { block := n15, off := (0 : Nat) : Addr }) fun v23 =>
                                        (∀ (w24 : World), u18 w24 → rd (World.cell? w24 { block := n15, off := (0 : Nat) : Addr }) fun v26 => v26 = v23 ∧ w24 = w24) ∧
                                          isK IntKind.u16 v23 fun i27 =>
                                            (∀ (w28 : World),
                                                u18 w28 → Value.int IntKind.u64 (IntKind.wrap IntKind.u64 i27) = Value.int IntKind.u64 (IntKind.wrap IntKind.u64 i27) ∧ w28 = w28) ∧
                                              (∀ (w30 : World),
                                                  u18 w30 →
                                                    Value.pointer (some { block := n15, off := (1 : Nat) : Addr }) =
                                                        Value.pointer (some { block := n15, off := (1 : Nat) : Addr }) ∧
                                                      w30 = w30) ∧
                                                rd (World.cell? (World.drew w17) { block := n15, off := (1 : Nat) : Addr }) fun v32 =>
                                                  (∀ (w33 : World), u18 w33 → rd (World.cell? w33 { block := n15, off := (1 : Nat) : Addr }) fun v35 => v35 = v32 ∧ w33 = w33) ∧
                                                    isK IntKind.u8 v32 fun i36 =>
                                                      (∀ (w37 : World),
                                                          u18 w37 →
                                                            Value.int IntKind.u64 (IntKind.wrap IntKind.u64 i36) = Value.int IntKind.u64 (IntKind.wrap IntKind.u64 i36) ∧
                                                              w37 = w37) ∧
                                                        callV Try.prog (47 : Nat) [Value.int IntKind.u64 (IntKind.wrap IntKind.u64 i27), Value.int IntKind.i64 (16 : Int)]
                                                          (World.drew w17) fun v39 w40 =>
                                                          isStr v39 fun x41 =>
                                                            u18 w40 ∧
                                                              rd (orO (binV BinOp.add (Value.string x6) (Value.string x41)) none) fun v42 =>
                                                                (∀ (w43 : World),
                                                                    u18 w43 →
                                                                      rd (orO (binV BinOp.add (Value.string x6) (Value.string x41)) none) fun v45 => v45 = v42 ∧ w43 = w43) ∧
                                                                  isStr v42 fun x46 =>
                                                                    callV Try.prog (47 : Nat)
                                                                      [Value.int IntKind.u64 (IntKind.wrap IntKind.u64 i36), Value.int IntKind.i64 (2 : Int)] w40 fun v47 w48 =>
                                                                      isStr v47 fun x49 =>
                                                                        u18 w48 ∧
                                                                          rd (orO (binV BinOp.add (Value.string x46) (Value.string x49)) none) fun v50 =>
                                                                            (∀ (w51 : World),
                                                                                u18 w51 →
                                                                                  rd (orO (binV BinOp.add (Value.string x46) (Value.string x49)) none) fun v53 =>
                                                                                    v53 = v50 ∧ w51 = w51) ∧
                                                                              isStr v50 fun x54 =>
                                                                                (∀ (w55 : World), u18 w55 → Value.string x54 = Value.string x54 ∧ w55 = w55) ∧
                                                                                  heldC (World.drew w48) fun u57 =>
                                                                                    (∀ (w58 : World), u57 w58 → Value.string x54 = Value.string x54 ∧ w58 = w58) ∧
                                                                                      (∀ (w60 : World),
                                                                                          u57 w60 →
                                                                                            Value.pointer (some { block := n15, off := (2 : Nat) : Addr }) =
                                                                                                Value.pointer (some { block := n15, off := (2 : Nat) : Addr }) ∧
                                                                                              w60 = w60) ∧
                                                                                        rd (World.cell? (World.drew w48) { block := n15, off := (2 : Nat) : Addr }) fun v62 =>
                                                                                          (∀ (w63 : World),
                                                                                              u57 w63 →
                                                                                                rd (World.cell? w63 { block := n15, off := (2 : Nat) : Addr }) fun v65 =>
                                                                                                  v65 = v62 ∧ w63 = w63) ∧
                                                                                            isK IntKind.i8 v62 fun i66 =>
                                                                                              (∀ (w67 : World),
                                                                                                  u57 w67 →
                                                                                                    Value.int IntKind.u64 (IntKind.wrap IntKind.u64 i66) =
                                                                                                        Value.int IntKind.u64 (IntKind.wrap IntKind.u64 i66) ∧
                                                                                                      w67 = w67) ∧
                                                                                                (∀ (w69 : World),
                                                                                                    u57 w69 →
                                                                                                      Value.pointer (some { block := n15, off := (3 : Nat) : Addr }) =
                                                                                                          Value.pointer (some { block := n15, off := (3 : Nat) : Addr }) ∧
                                                                                                        w69 = w69) ∧
                                                                                                  rd (World.cell? (World.drew w48) { block := n15, off := (3 : Nat) : Addr })
                                                                                                    fun v71 =>
                                                                                                    (∀ (w72 : World),
                                                                                                        u57 w72 →
                                                                                                          rd (World.cell? w72 { block := n15, off := (3 : Nat) : Addr }) fun v74 =>
                                                                                                            v74 = v71 ∧ w72 = w72) ∧
                                                                                                      isK IntKind.i8 v71 fun i75 =>
                                                                                                        (∀ (w76 : World),
                                                                                                            u57 w76 →
                                                                                                              Value.int IntKind.u64 (IntKind.wrap IntKind.u64 i75) =
                                                                                                                  Value.int IntKind.u64 (IntKind.wrap IntKind.u64 i75) ∧
                                                                                                                w76 = w76) ∧
                                                                                                          (∀ (w78 : World),
                                                                                                              u57 w78 →
                                                                                                                Value.pointer (some { block := n15, off := (4 : Nat) : Addr }) =
                                                                                                                    Value.pointer (some { block := n15, off := (4 : Nat) : Addr }) ∧
                                                                                                                  w78 = w78) ∧
                                                                                                            rd
                                                                                                              (World.cell? (World.drew w48)
                                                                                                                { block := n15, off := (4 : Nat) : Addr })
                                                                                                              fun v80 =>
                                                                                                              (∀ (w81 : World),
                                                                                                                  u57 w81 →
                                                                                                                    rd (World.cell? w81 { block := n15, off := (4 : Nat) : Addr })
                                                                                                                      fun v83 => v83 = v80 ∧ w81 = w81) ∧
                                                                                                                isK IntKind.i64 v80 fun i84 =>
                                                                                                                  (∀ (w85 : World),
                                                                                                                      u57 w85 →
                                                                                                                        Value.int IntKind.i64
                                                                                                                              (IntKind.wrap IntKind.i64 (i84 - (1 : Int))) =
                                                                                                                            Value.int IntKind.i64
                                                                                                                              (IntKind.wrap IntKind.i64 (i84 - (1 : Int))) ∧
                                                                                                                          w85 = w85) ∧
                                                                                                                    (∀ (w87 : World),
                                                                                                                        u57 w87 →
                                                                                                                          Value.int IntKind.u64
                                                                                                                                (IntKind.wrap IntKind.u64
                                                                                                                                  (IntKind.wrap IntKind.i64 (i84 - (1 : Int)))) =
                                                                                                                              Value.int IntKind.u64
                                                                                                                                (IntKind.wrap IntKind.u64
                                                                                                                                  (IntKind.wrap IntKind.i64 (i84 - (1 : Int)))) ∧
                                                                                                                            w87 = w87) ∧
                                                                                                                      callV Try.prog (47 : Nat)
                                                                                                                        [Value.int IntKind.u64 (IntKind.wrap IntKind.u64 i66),
                                                                                                                          Value.int IntKind.i64 (8 : Int)]
                                                                                                                        (World.drew w48) fun v89 w90 =>
                                                                                                                        isStr v89 fun x91 =>
                                                                                                                          u57 w90 ∧
                                                                                                                            rd
                                                                                                                              (orO
                                                                                                                                (binV BinOp.add (Value.string x54)
                                                                                                                                  (Value.string x91))
                                                                                                                                none)
                                                                                                                              fun v92 =>
                                                                                                                              (∀ (w93 : World),
                                                                                                                                  u57 w93 →
                                                                                                                                    rd
                                                                                                                                      (orO
                                                                                                                                        (binV BinOp.add (Value.string x54)
                                                                                                                                          (Value.string x91))
                                                                                                                                        none)
                                                                                                                                      fun v95 => v95 = v92 ∧ w93 = w93) ∧
                                                                                                                                isStr v92 fun x96 =>
                                                                                                                                  callV Try.prog (47 : Nat)
                                                                                                                                    [Value.int IntKind.u64
                                                                                                                                        (IntKind.wrap IntKind.u64 i75),
                                                                                                                                      Value.int IntKind.i64 (8 : Int)]
                                                                                                                                    w90 fun v97 w98 =>
                                                                                                                                    isStr v97 fun x99 =>
                                                                                                                                      u57 w98 ∧
                                                                                                                                        rd
                                                                                                                                          (orO
                                                                                                                                            (binV BinOp.add (Value.string x96)
                                                                                                                                              (Value.string x99))
                                                                                                                                            none)
                                                                                                                                          fun v100 =>
                                                                                                                                          (∀ (w101 : World),
                                                                                                                                              u57 w101 →
                                                                                                                                                rd
                                                                                                                                                  (orO
                                                                                                                                                    (binV BinOp.add
                                                                                                                                                      (Value.string x96)
                                                                                                                                                      (Value.string x99))
                                                                                                                                                    none)
                                                                                                                                                  fun v103 =>
                                                                                                                                                  v103 = v100 ∧ w101 = w101) ∧
                                                                                                                                            isStr v100 fun x104 =>
                                                                                                                                              callV Try.prog (47 : Nat)
                                                                                                                                                [Value.int IntKind.u64
                                                                                                                                                    (IntKind.wrap IntKind.u64
                                                                                                                                                      (IntKind.wrap IntKind.i64
                                                                                                                                                        (i84 - (1 : Int)))),
                                                                                                                                                  Value.int IntKind.i64 (3 : Int)]
                                                                                                                                                w98 fun v105 w106 =>
                                                                                                                                                isStr v105 fun x107 =>
                                                                                                                                                  u57 w106 ∧
                                                                                                                                                    rd
                                                                                                                                                      (orO
                                                                                                                                                        (binV BinOp.add
                                                                                                                                                          (Value.string x104)
                                                                                                                                                          (Value.string x107))
                                                                                                                                                        none)
                                                                                                                                                      fun v108 =>
                                                                                                                                                      (∀ (w109 : World),
                                                                                                                                                          u57 w109 →
                                                                                                                                                            rd
                                                                                                                                                              (orO
                                                                                                                                                                (binV BinOp.add
                                                                                                                                                                  (Value.string
                                                                                                                                                                    x104)
                                                                                                                                                                  (Value.string
                                                                                                                                                                    x107))
                                                                                                                                                                none)
                                                                                                                                                              fun v111 =>
                                                                                                                                                              v111 = v108 ∧
                                                                                                                                                                w109 = w109) ∧
                                                                                                                                                        isStr v108 fun x112 =>
                                                                                                                                                          (∀ (w113 : World),
                                                                                                                                                              u57 w113 →
                                                                                                                                                                Value.string x112 =
                                                                                                                                                                    Value.string
                                                                                                                                                                      x112 ∧
                                                                                                                                                                  w113 = w113) ∧
                                                                                                                                                            R (Value.string x112)
                                                                                                                                                              w106)
                        (br (decide (i13 = (3 : Int)))
                          (heldC (World.drew w10) fun u115 =>
                            (∀ (w116 : World), u115 w116 → Value.string x6 = Value.string x6 ∧ w116 = w116) ∧
                              (∀ (w118 : World), u115 w118 → Value.string x11 = Value.string x11 ∧ w118 = w118) ∧
                                rd (orO (binV BinOp.add (Value.string x6) (Value.string x11)) none) fun v120 =>
                                  (∀ (w121 : World), u115 w121 → rd (orO (binV BinOp.add (Value.string x6) (Value.string x11)) none) fun v123 => v123 = v120 ∧ w121 = w121) ∧
                                    isStr v120 fun x124 =>
                                      (∀ (w125 : World),
                                          u115 w125 →
                                            Value.pointer (some { block := n0, off := (9 : Nat) : Addr }) = Value.pointer (some { block := n0, off := (9 : Nat) : Addr }) ∧
                                              w125 = w125) ∧
                                        rd (World.cell? (World.drew w10) { block := n0, off := (9 : Nat) : Addr }) fun v127 =>
                                          (∀ (w128 : World), u115 w128 → rd (World.cell? w128 { block := n0, off := (9 : Nat) : Addr }) fun v130 => v130 = v127 ∧ w128 = w128) ∧
                                            isK IntKind.i64 v127 fun i131 =>
                                              (∀ (w132 : World),
                                                  u115 w132 →
                                                    Value.int IntKind.u64 (IntKind.wrap IntKind.u64 i131) = Value.int IntKind.u64 (IntKind.wrap IntKind.u64 i131) ∧ w132 = w132) ∧
                                                (∀ (w134 : World),
                                                    u115 w134 →
                                                      Value.pointer (some { block := n0, off := (10 : Nat) : Addr }) =
                                                          Value.pointer (some { block := n0, off := (10 : Nat) : Addr }) ∧
                                                        w134 = w134) ∧
                                                  rd (cellsAt (World.drew w10) { block := n0, off := (10 : Nat) : Addr } (3 : Nat)) fun l136 =>
                                                    (∀ (w137 : World),
                                                        u115 w137 →
                                                          rd (cellsAt w137 { block := n0, off := (10 : Nat) : Addr } (3 : Nat)) fun l139 =>
                                                            Value.agg (List.toArray l139) = Value.agg (List.toArray l136) ∧ w137 = w137) ∧
                                                      callV Try.prog (47 : Nat) [Value.int IntKind.u64 (IntKind.wrap IntKind.u64 i131), Value.int IntKind.i64 (1 : Int)]
                                                        (World.drew w10) fun v140 w141 =>
                                                        isStr v140 fun x142 =>
                                                          u115 w141 ∧
                                                            rd (orO (binV BinOp.add (Value.string x124) (Value.string x142)) none) fun v143 =>
                                                              (∀ (w144 : World),
                                                                  u115 w144 →
                                                                    rd (orO (binV BinOp.add (Value.string x124) (Value.string x142)) none) fun v146 => v146 = v143 ∧ w144 = w144) ∧
                                                                isStr v143 fun x147 =>
                                                                  callV Try.prog (62 : Nat) [Value.agg (List.toArray l136), Value.int IntKind.i64 (18 : Int)] w141 fun v148 w149 =>
                                                                    isStr v148 fun x150 =>
                                                                      u115 w149 ∧
                                                                        rd (orO (binV BinOp.add (Value.string x147) (Value.string x150)) none) fun v151 =>
                                                                          (∀ (w152 : World),
                                                                              u115 w152 →
                                                                                rd (orO (binV BinOp.add (Value.string x147) (Value.string x150)) none) fun v154 =>
                                                                                  v154 = v151 ∧ w152 = w152) ∧
                                                                            isStr v151 fun x155 =>
                                                                              (∀ (w156 : World), u115 w156 → Value.string x155 = Value.string x155 ∧ w156 = w156) ∧
                                                                                R (Value.string x155) w149)
                          (br (decide (i13 = (5 : Int)))
                            (rd (World.cell? w10 { block := n0, off := (8 : Nat) : Addr }) fun v158 =>
                              isK IntKind.i64 v158 fun i159 =>
                                callV Try.prog (47 : Nat) [Value.int IntKind.u64 (IntKind.wrap IntKind.u64 i159), Value.int IntKind.i64 (31 : Int)] w10 fun v160 w161 =>
                                  isStr v160 fun x162 =>
                                    rd (orO (binV BinOp.add (Value.string x6) (Value.string x162)) none) fun v163 => isStr v163 fun x164 => R (Value.string x164) w161)
                            (br (decide (i13 = (6 : Int)))
                              (heldC (World.drew w10) fun u165 =>
                                (∀ (w166 : World), u165 w166 → Value.string x6 = Value.string x6 ∧ w166 = w166) ∧
                                  (∀ (w168 : World),
                                      u165 w168 →
                                        Value.pointer (some { block := n0, off := (1 : Nat) : Addr }) = Value.pointer (some { block := n0, off := (1 : Nat) : Addr }) ∧
                                          w168 = w168) ∧
                                    rd (World.cell? (World.drew w10) { block := n0, off := (1 : Nat) : Addr }) fun v170 =>
                                      (∀ (w171 : World), u165 w171 → rd (World.cell? w171 { block := n0, off := (1 : Nat) : Addr }) fun v173 => v173 = v170 ∧ w171 = w171) ∧
                                        isK IntKind.u16 v170 fun i174 =>
                                          (∀ (w175 : World),
                                              u165 w175 →
                                                Value.int IntKind.u64 (IntKind.wrap IntKind.u64 i174) = Value.int IntKind.u64 (IntKind.wrap IntKind.u64 i174) ∧ w175 = w175) ∧
                                            (∀ (w177 : World),
                                                u165 w177 →
                                                  Value.pointer (some { block := n0, off := (14 : Nat) : Addr }) = Value.pointer (some { block := n0, off := (14 : Nat) : Addr }) ∧
                                                    w177 = w177) ∧
                                              rd (cellsAt (World.drew w10) { block := n0, off := (14 : Nat) : Addr } (3 : Nat)) fun l179 =>
                                                (∀ (w180 : World),
                                                    u165 w180 →
                                                      rd (cellsAt w180 { block := n0, off := (14 : Nat) : Addr } (3 : Nat)) fun l182 =>
                                                        Value.agg (List.toArray l182) = Value.agg (List.toArray l179) ∧ w180 = w180) ∧
                                                  (∀ (w183 : World),
                                                      u165 w183 →
                                                        Value.pointer (some { block := n0, off := (17 : Nat) : Addr }) =
                                                            Value.pointer (some { block := n0, off := (17 : Nat) : Addr }) ∧
                                                          w183 = w183) ∧
                                                    rd (cellsAt (World.drew w10) { block := n0, off := (17 : Nat) : Addr } (3 : Nat)) fun l185 =>
                                                      (∀ (w186 : World),
                                                          u165 w186 →
                                                            rd (cellsAt w186 { block := n0, off := (17 : Nat) : Addr } (3 : Nat)) fun l188 =>
                                                              Value.agg (List.toArray l188) = Value.agg (List.toArray l185) ∧ w186 = w186) ∧
                                                        callV Try.prog (47 : Nat) [Value.int IntKind.u64 (IntKind.wrap IntKind.u64 i174), Value.int IntKind.i64 (16 : Int)]
                                                          (World.drew w10) fun v189 w190 =>
                                                          isStr v189 fun x191 =>
                                                            u165 w190 ∧
                                                              rd (orO (binV BinOp.add (Value.string x6) (Value.string x191)) none) fun v192 =>
                                                                (∀ (w193 : World),
                                                                    u165 w193 →
                                                                      rd (orO (binV BinOp.add (Value.string x6) (Value.string x191)) none) fun v195 => v195 = v192 ∧ w193 = w193) ∧
                                                                  isStr v192 fun x196 =>
                                                                    callV Try.prog (62 : Nat) [Value.agg (List.toArray l179), Value.int IntKind.i64 (32 : Int)] w190
                                                                      fun v197 w198 =>
                                                                      isStr v197 fun x199 =>
                                                                        u165 w198 ∧
                                                                          rd (orO (binV BinOp.add (Value.string x196) (Value.string x199)) none) fun v200 =>
                                                                            (∀ (w201 : World),
                                                                                u165 w201 →
                                                                                  rd (orO (binV BinOp.add (Value.string x196) (Value.string x199)) none) fun v203 =>
                                                                                    v203 = v200 ∧ w201 = w201) ∧
                                                                              isStr v200 fun x204 =>
                                                                                callV Try.prog (62 : Nat) [Value.agg (List.toArray l185), Value.int IntKind.i64 (32 : Int)] w198
                                                                                  fun v205 w206 =>
                                                                                  isStr v205 fun x207 =>
                                                                                    u165 w206 ∧
                                                                                      rd (orO (binV BinOp.add (Value.string x204) (Value.string x207)) none) fun v208 =>
                                                                                        (∀ (w209 : World),
                                                                                            u165 w209 →
                                                                                              rd (orO (binV BinOp.add (Value.string x204) (Value.string x207)) none) fun v211 =>
                                                                                                v211 = v208 ∧ w209 = w209) ∧
                                                                                          isStr v208 fun x212 =>
                                                                                            (∀ (w213 : World), u165 w213 → Value.string x212 = Value.string x212 ∧ w213 = w213) ∧
                                                                                              R (Value.string x212) w206)
                              (br (decide (i13 = (7 : Int)))
                                (rd (orO (binV BinOp.add (Value.string x6) (Value.string x11)) none) fun v215 =>
                                  isStr v215 fun x216 =>
                                    rd (World.cell? w10 { block := n0, off := (8 : Nat) : Addr }) fun v217 =>
                                      isK IntKind.i64 v217 fun i218 =>
                                        callV Try.prog (47 : Nat) [Value.int IntKind.u64 (IntKind.wrap IntKind.u64 i218), Value.int IntKind.i64 (31 : Int)] w10 fun v219 w220 =>
                                          isStr v219 fun x221 =>
                                            rd (orO (binV BinOp.add (Value.string x216) (Value.string x221)) none) fun v222 => isStr v222 fun x223 => R (Value.string x223) w220)
                                (br (decide (i13 = (8 : Int)))
                                  (rd (orO (binV BinOp.add (Value.string x6) (Value.string x11)) none) fun v224 =>
                                    isStr v224 fun x225 =>
                                      rd (World.cell? w10 { block := n0, off := (13 : Nat) : Addr }) fun v226 =>
                                        isK IntKind.i64 v226 fun i227 =>
                                          callV Try.prog (47 : Nat) [Value.int IntKind.u64 (IntKind.wrap IntKind.u64 i227), Value.int IntKind.i64 (4 : Int)] w10 fun v228 w229 =>
                                            isStr v228 fun x230 =>
                                              rd (orO (binV BinOp.add (Value.string x225) (Value.string x230)) none) fun v231 => isStr v231 fun x232 => R (Value.string x232) w229)
                                  (br (decide (i13 = (9 : Int)))
                                    (heldC (World.drew w10) fun u233 =>
                                      (∀ (w234 : World), u233 w234 → Value.string x6 = Value.string x6 ∧ w234 = w234) ∧
                                        (∀ (w236 : World),
                                            u233 w236 →
                                              Value.pointer (some { block := n0, off := (20 : Nat) : Addr }) = Value.pointer (some { block := n0, off := (20 : Nat) : Addr }) ∧
                                                w236 = w236) ∧
                                          rd (World.cell? (World.drew w10) { block := n0, off := (20 : Nat) : Addr }) fun v238 =>
                                            (∀ (w239 : World), u233 w239 → rd (World.cell? w239 { block := n0, off := (20 : Nat) : Addr }) fun v241 => v241 = v238 ∧ w239 = w239) ∧
                                              isK IntKind.u32 v238 fun i242 =>
                                                (∀ (w243 : World),
                                                    u233 w243 →
                                                      Value.int IntKind.u64 (IntKind.wrap IntKind.u64 i242) = Value.int IntKind.u64 (IntKind.wrap IntKind.u64 i242) ∧ w243 = w243) ∧
                                                  (∀ (w245 : World),
                                                      u233 w245 →
                                                        Value.pointer (some { block := n0, off := (21 : Nat) : Addr }) =
                                                            Value.pointer (some { block := n0, off := (21 : Nat) : Addr }) ∧
                                                          w245 = w245) ∧
                                                    rd (World.cell? (World.drew w10) { block := n0, off := (21 : Nat) : Addr }) fun v247 =>
                                                      (∀ (w248 : World),
                                                          u233 w248 → rd (World.cell? w248 { block := n0, off := (21 : Nat) : Addr }) fun v250 => v250 = v247 ∧ w248 = w248) ∧
                                                        isK IntKind.u32 v247 fun i251 =>
                                                          (∀ (w252 : World),
                                                              u233 w252 →
                                                                Value.int IntKind.u64 (IntKind.wrap IntKind.u64 i251) = Value.int IntKind.u64 (IntKind.wrap IntKind.u64 i251) ∧
                                                                  w252 = w252) ∧
                                                            (∀ (w254 : World),
                                                                u233 w254 →
                                                                  Value.pointer (some { block := n0, off := (22 : Nat) : Addr }) =
                                                                      Value.pointer (some { block := n0, off := (22 : Nat) : Addr }) ∧
                                                                    w254 = w254) ∧
                                                              rd (World.cell? (World.drew w10) { block := n0, off := (22 : Nat) : Addr }) fun v256 =>
                                                                (∀ (w257 : World),
                                                                    u233 w257 →
                                                                      rd (World.cell? w257 { block := n0, off := (22 : Nat) : Addr }) fun v259 => v259 = v256 ∧ w257 = w257) ∧
                                                                  isSl v256 fun o260 n261 n262 =>
                                                                    (∀ (w263 : World),
                                                                        u233 w263 → Value.int IntKind.i64 (↑n261 : Int) = Value.int IntKind.i64 (↑n261 : Int) ∧ w263 = w263) ∧
                                                                      (∀ (w265 : World),
                                                                          u233 w265 →
                                                                            Value.int IntKind.u64 (IntKind.wrap IntKind.u64 (↑n261 : Int)) =
                                                                                Value.int IntKind.u64 (IntKind.wrap IntKind.u64 (↑n261 : Int)) ∧
                                                                              w265 = w265) ∧
                                                                        callV Try.prog (47 : Nat)
                                                                          [Value.int IntKind.u64 (IntKind.wrap IntKind.u64 i242), Value.int IntKind.i64 (32 : Int)] (World.drew w10)
                                                                          fun v267 w268 =>
                                                                          isStr v267 fun x269 =>
                                                                            u233 w268 ∧
                                                                              rd (orO (binV BinOp.add (Value.string x6) (Value.string x269)) none) fun v270 =>
                                                                                (∀ (w271 : World),
                                                                                    u233 w271 →
                                                                                      rd (orO (binV BinOp.add (Value.string x6) (Value.string x269)) none) fun v273 =>
                                                                                        v273 = v270 ∧ w271 = w271) ∧
                                                                                  isStr v270 fun x274 =>
                                                                                    callV Try.prog (47 : Nat)
                                                                                      [Value.int IntKind.u64 (IntKind.wrap IntKind.u64 i251), Value.int IntKind.i64 (32 : Int)] w268
                                                                                      fun v275 w276 =>
                                                                                      isStr v275 fun x277 =>
                                                                                        u233 w276 ∧
                                                                                          rd (orO (binV BinOp.add (Value.string x274) (Value.string x277)) none) fun v278 =>
                                                                                            (∀ (w279 : World),
                                                                                                u233 w279 →
                                                                                                  rd (orO (binV BinOp.add (Value.string x274) (Value.string x277)) none) fun v281 =>
                                                                                                    v281 = v278 ∧ w279 = w279) ∧
                                                                                              isStr v278 fun x282 =>
                                                                                                callV Try.prog (47 : Nat)
                                                                                                  [Value.int IntKind.u64 (IntKind.wrap IntKind.u64 (↑n261 : Int)),
                                                                                                    Value.int IntKind.i64 (10 : Int)]
                                                                                                  w276 fun v283 w284 =>
                                                                                                  isStr v283 fun x285 =>
                                                                                                    u233 w284 ∧
                                                                                                      rd (orO (binV BinOp.add (Value.string x282) (Value.string x285)) none)
                                                                                                        fun v286 =>
                                                                                                        (∀ (w287 : World),
                                                                                                            u233 w287 →
                                                                                                              rd (orO (binV BinOp.add (Value.string x282) (Value.string x285)) none)
                                                                                                                fun v289 => v289 = v286 ∧ w287 = w287) ∧
                                                                                                          isStr v286 fun x290 =>
                                                                                                            (∀ (w291 : World),
                                                                                                                u233 w291 → Value.string x290 = Value.string x290 ∧ w291 = w291) ∧
                                                                                                              rd (World.cell? w284 { block := n0, off := (22 : Nat) : Addr })
                                                                                                                fun v293 =>
                                                                                                                isSl v293 fun o294 n295 n296 =>
                                                                                                                  runs Try.prog
                                                                                                                    (convert (25 : Nat) (9 : Nat) (Value.slice o294 n295 n296)) w284
                                                                                                                    fun v297 w298 =>
                                                                                                                    isStr v297 fun x299 =>
                                                                                                                      callV Try.prog (33 : Nat) [Value.string x299] w298
                                                                                                                        fun v300 w301 =>
                                                                                                                        isStr v300 fun x302 =>
                                                                                                                          rd
                                                                                                                            (orO
                                                                                                                              (binV BinOp.add (Value.string x290)
                                                                                                                                (Value.string x302))
                                                                                                                              none)
                                                                                                                            fun v303 =>
                                                                                                                            isStr v303 fun x304 => R (Value.string x304) w301)
                                    (R (Value.string x6) w10)))))))) :
  callV Try.prog 48 [Value.agg #[Value.int IntKind.i64 a0, Value.int IntKind.u16 a1, Value.int IntKind.u16 a20, Value.int IntKind.u8 a21, Value.int IntKind.i8 a22, Value.int IntKind.i8 a23, Value.int IntKind.i64 a24, Value.int IntKind.u16 a3, Value.int IntKind.i64 a4, Value.int IntKind.i64 a5, Value.int IntKind.i64 a60, Value.int IntKind.i64 a61, Value.int IntKind.i64 a62, Value.int IntKind.i64 a7, Value.int IntKind.i64 a80, Value.int IntKind.i64 a81, Value.int IntKind.i64 a82, Value.int IntKind.i64 a90, Value.int IntKind.i64 a91, Value.int IntKind.i64 a92, Value.int IntKind.u32 a10, Value.int IntKind.u32 a11, Value.slice a12p a12n a12c]] w R :=
  vc_of hm ⟨fun _ => false, fun n => match n with | 6 => .take 0 (.take 1 (.take 2 (.take 3 (.take 6 (.take 7 (.take 8 (.one 4 (.take 5 (.one 9 (.take 10 (.take 11 (.done)))))))))))) | 7 => .take 0 (.take 1 (.take 2 (.take 3 (.take 6 (.take 7 (.take 8 (.take 11 (.take 12 (.take 13 (.take 14 (.one 4 (.take 5 (.one 9 (.take 10 (.one 15 (.take 16 (.take 17 (.done)))))))))))))))))) | 9 => .take 0 (.take 1 (.take 2 (.take 3 (.take 4 (.take 5 (.take 8 (.take 9 (.one 6 (.take 7 (.one 10 (.take 11 (.take 12 (.done))))))))))))) | 13 => .take 0 (.take 1 (.take 2 (.take 3 (.take 6 (.take 7 (.take 10 (.take 11 (.one 4 (.take 5 (.one 8 (.take 9 (.one 12 (.take 13 (.take 14 (.done))))))))))))))) | 19 => .take 0 (.take 1 (.take 2 (.take 3 (.take 6 (.take 7 (.take 8 (.take 11 (.take 12 (.take 13 (.take 14 (.one 4 (.take 5 (.one 9 (.take 10 (.one 15 (.take 16 (.take 17 (.done)))))))))))))))))) | _ => .done, fun _ => []⟩ Try.func48 ent48 (by kernel_rfl) h

end Go.Proofs.Ytfekkdmnboccfaa
