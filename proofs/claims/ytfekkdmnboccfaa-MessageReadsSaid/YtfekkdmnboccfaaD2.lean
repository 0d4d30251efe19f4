/- The conditions of functions, written out: printed by a small program (VCDev.lean, vcgen.sh).  Conditions: none. -/
import Derived.Test.YtfekkdmnboccfaaTab
namespace Go.Proofs.Ytfekkdmnboccfaa
set_option linter.unusedSimpArgs false
set_option linter.unusedVariables false
open Go VC
theorem vc34 (a : Addr) (b : Int) (w : World) (R : Value → World → Prop)
  (h : callV Try.prog (54 : Nat) [Value.pointer (some a), Value.int IntKind.i64 b] w fun v0 w1 =>
  isStr v0 fun x2 => callV Try.prog (55 : Nat) [Value.string x2] w1 fun v3 w4 => isK IntKind.u64 v3 fun i5 => R (Value.int IntKind.i64 (IntKind.wrap IntKind.i64 i5)) w4) :
  callV Try.prog 34 [Value.pointer (some a), Value.int IntKind.i64 b] w R :=
  vc_of hm noHints Try.func34 ent34 (by kernel_rfl) h

theorem vc35 (a : Addr) (b : Bool) (w : World) (R : Value → World → Prop)
  (h : br (!b)
  (rd (World.cell? w (Addr.add a (1 : Nat))) fun v0 =>
    isK IntKind.i64 v0 fun i1 =>
      br (decide (i1 = (0 : Int))) (stC w (Addr.add a (1 : Nat)) [Value.int IntKind.i64 (3 : Int)] fun w2 => R (Value.tuple #[]) w2) (R (Value.tuple #[]) w))
  (R (Value.tuple #[]) w)) :
  callV Try.prog 35 [Value.pointer (some a), Value.bool b] w R :=
  vc_of hm noHints Try.func35 ent35 (by kernel_rfl) h

theorem vc37 (a : ByteArray) (w : World) (R : Value → World → Prop)
  (h : loopC (alist [((3 : Nat), Value.int IntKind.i64 (0 : Int))]) w fun u0 u1 =>
  ∀ (u2 : Nat → Value) (w3 : World),
    u0 (alist [((3 : Nat), u2 (3 : Nat))]) w3 →
      isK IntKind.i64 (u2 (3 : Nat)) fun i5 =>
        br (decide (i5 < (↑(ByteArray.size a) : Int)))
          (isK IntKind.i64 (u2 (3 : Nat)) fun i6 =>
            runs Try.prog (Instr.index (9 : Nat) (Value.string a) (Value.int IntKind.i64 i6)) w3 fun v7 w8 =>
              isK IntKind.u8 v7 fun i9 =>
                br (!decide (i9 = (48 : Int))) (R (Value.bool false) w8)
                  (isK IntKind.i64 (u2 (3 : Nat)) fun i10 =>
                    again u0 u1 (alist [((3 : Nat), Value.int IntKind.i64 (IntKind.wrap IntKind.i64 (i10 + (1 : Int))))]) w8 (alist [((3 : Nat), u2 (3 : Nat))]) w3))
          (R (Value.bool (decide ((↑(ByteArray.size a) : Int) < (8 : Int)))) w3)) :
  callV Try.prog 37 [Value.string a] w R :=
  vc_of hm ⟨fun _ => false, fun _ => .done, fun n => match n with | 2 => [3] | _ => []⟩ Try.func37 ent37 (by kernel_rfl) h

theorem vc54 (a : Addr) (b : Int) (w : World) (R : Value → World → Prop)
  (h : rd (World.cell? w (Addr.add a (1 : Nat))) fun v0 =>
  isK IntKind.i64 v0 fun i1 =>
    br (decide (i1 = (0 : Int)))
      (rd (World.cell? w a) fun v2 =>
        isStr v2 fun x3 =>
          br (decide ((↑(ByteArray.size x3) : Int) < b))
            (stC w (Addr.add a (1 : Nat)) [Value.int IntKind.i64 (2 : Int)] fun w4 =>
              rd (World.cell? w4 (Addr.add a (1 : Nat))) fun v5 =>
                isK IntKind.i64 v5 fun i6 =>
                  br (!decide (i6 = (0 : Int))) (R (Value.string { data := #[] : ByteArray }) w4)
                    (rd (World.cell? w4 a) fun v7 =>
                      isStr v7 fun x8 =>
                        runs Try.prog (Instr.sliceAt (9 : Nat) (Value.string x8) none (some (Value.int IntKind.i64 b)) none) w4 fun v9 w10 =>
                          isStr v9 fun x11 =>
                            rd (World.cell? w10 a) fun v12 =>
                              isStr v12 fun x13 =>
                                runs Try.prog (Instr.sliceAt (9 : Nat) (Value.string x13) (some (Value.int IntKind.i64 b)) none none) w10 fun v14 w15 =>
                                  isStr v14 fun x16 => stC w15 a [Value.string x16] fun w17 => R (Value.string x11) w17))
            (rd (World.cell? w (Addr.add a (1 : Nat))) fun v18 =>
              isK IntKind.i64 v18 fun i19 =>
                br (!decide (i19 = (0 : Int))) (R (Value.string { data := #[] : ByteArray }) w)
                  (rd (World.cell? w a) fun v20 =>
                    isStr v20 fun x21 =>
                      runs Try.prog (Instr.sliceAt (9 : Nat) (Value.string x21) none (some (Value.int IntKind.i64 b)) none) w fun v22 w23 =>
                        isStr v22 fun x24 =>
                          rd (World.cell? w23 a) fun v25 =>
                            isStr v25 fun x26 =>
                              runs Try.prog (Instr.sliceAt (9 : Nat) (Value.string x26) (some (Value.int IntKind.i64 b)) none none) w23 fun v27 w28 =>
                                isStr v27 fun x29 => stC w28 a [Value.string x29] fun w30 => R (Value.string x24) w30)))
      (rd (World.cell? w (Addr.add a (1 : Nat))) fun v31 =>
        isK IntKind.i64 v31 fun i32 =>
          br (!decide (i32 = (0 : Int))) (R (Value.string { data := #[] : ByteArray }) w)
            (rd (World.cell? w a) fun v33 =>
              isStr v33 fun x34 =>
                runs Try.prog (Instr.sliceAt (9 : Nat) (Value.string x34) none (some (Value.int IntKind.i64 b)) none) w fun v35 w36 =>
                  isStr v35 fun x37 =>
                    rd (World.cell? w36 a) fun v38 =>
                      isStr v38 fun x39 =>
                        runs Try.prog (Instr.sliceAt (9 : Nat) (Value.string x39) (some (Value.int IntKind.i64 b)) none none) w36 fun v40 w41 =>
                          isStr v40 fun x42 => stC w41 a [Value.string x42] fun w43 => R (Value.string x37) w43))) :
  callV Try.prog 54 [Value.pointer (some a), Value.int IntKind.i64 b] w R :=
  vc_of hm noHints Try.func54 ent54 (by kernel_rfl) h

theorem vc56 (a : Addr) (b : Int) (w : World) (R : Value → World → Prop)
  (h : callV Try.prog (54 : Nat) [Value.pointer (some a), Value.int IntKind.i64 b] w fun v0 w1 =>
  isStr v0 fun x2 => callV Try.prog (63 : Nat) [Value.string x2] w1 fun v3 w4 => isK IntKind.i64 v3 fun i5 => R (Value.int IntKind.i64 i5) w4) :
  callV Try.prog 56 [Value.pointer (some a), Value.int IntKind.i64 b] w R :=
  vc_of hm noHints Try.func56 ent56 (by kernel_rfl) h

theorem vc57 (a : Addr) (b : Int) (c : Int) (w : World) (R : Value → World → Prop)
  (h : allocC w (Obj.cells #[Value.int IntKind.i64 (0 : Int), Value.int IntKind.i64 (0 : Int), Value.int IntKind.i64 (0 : Int)] (37 : Nat)) fun n0 w1 =>
  allocC w1 (Obj.cells #[Value.int IntKind.i64 (0 : Int), Value.int IntKind.i64 (0 : Int), Value.int IntKind.i64 (0 : Int)] (37 : Nat)) fun n2 w3 =>
    stC w3 { block := n2, off := (0 : Nat) : Addr } [Value.int IntKind.i64 (0 : Int), Value.int IntKind.i64 (0 : Int), Value.int IntKind.i64 (0 : Int)] fun w4 =>
      callV Try.prog (56 : Nat) [Value.pointer (some a), Value.int IntKind.i64 b] w4 fun v5 w6 =>
        isK IntKind.i64 v5 fun i7 =>
          stC w6 { block := n2, off := (0 : Nat) : Addr } [Value.int IntKind.i64 i7] fun w8 =>
            cutC
              (fun u9 =>
                br (decide (c < (0 : Int))) (callV Try.prog (35 : Nat) [Value.pointer (some a), Value.bool true] w8 fun v10 w11 => u9 (alist []) w11)
                  (rd (World.cell? w8 { block := n2, off := (0 : Nat) : Addr }) fun v12 =>
                    isK IntKind.i64 v12 fun i13 =>
                      br (decide (i13 ≤ c))
                        (rd (World.cell? w8 { block := n2, off := (0 : Nat) : Addr }) fun v14 =>
                          isK IntKind.i64 v14 fun i15 =>
                            callV Try.prog (35 : Nat) [Value.pointer (some a), Value.bool (decide (IntKind.wrap IntKind.i64 ((0 : Int) - c) ≤ i15))] w8 fun v16 w17 =>
                              u9 (alist []) w17)
                        (callV Try.prog (35 : Nat) [Value.pointer (some a), Value.bool false] w8 fun v18 w19 => u9 (alist []) w19)))
              fun u20 =>
              ∀ (u21 : Nat → Value) (w22 : World),
                u20 (alist []) w22 →
                  callV Try.prog (56 : Nat) [Value.pointer (some a), Value.int IntKind.i64 b] w22 fun v24 w25 =>
                    isK IntKind.i64 v24 fun i26 =>
                      stC w25 { block := n2, off := (1 : Nat) : Addr } [Value.int IntKind.i64 i26] fun w27 =>
                        cutC
                          (fun u28 =>
                            br (decide (c < (0 : Int))) (callV Try.prog (35 : Nat) [Value.pointer (some a), Value.bool true] w27 fun v29 w30 => u28 (alist []) w30)
                              (rd (World.cell? w27 { block := n2, off := (1 : Nat) : Addr }) fun v31 =>
                                isK IntKind.i64 v31 fun i32 =>
                                  br (decide (i32 ≤ c))
                                    (rd (World.cell? w27 { block := n2, off := (1 : Nat) : Addr }) fun v33 =>
                                      isK IntKind.i64 v33 fun i34 =>
                                        callV Try.prog (35 : Nat) [Value.pointer (some a), Value.bool (decide (IntKind.wrap IntKind.i64 ((0 : Int) - c) ≤ i34))] w27 fun v35 w36 =>
                                          u28 (alist []) w36)
                                    (callV Try.prog (35 : Nat) [Value.pointer (some a), Value.bool false] w27 fun v37 w38 => u28 (alist []) w38)))
                          fun u39 =>
                          ∀ (u40 : Nat → Value) (w41 : World),
                            u39 (alist []) w41 →
                              callV Try.prog (56 : Nat) [Value.pointer (some a), Value.int IntKind.i64 b] w41 fun v43 w44 =>
                                isK IntKind.i64 v43 fun i45 =>
                                  stC w44 { block := n2, off := (2 : Nat) : Addr } [Value.int IntKind.i64 i45] fun w46 =>
                                    cutC
                                      (fun u47 =>
                                        br (decide (c < (0 : Int))) (callV Try.prog (35 : Nat) [Value.pointer (some a), Value.bool true] w46 fun v48 w49 => u47 (alist []) w49)
                                          (rd (World.cell? w46 { block := n2, off := (2 : Nat) : Addr }) fun v50 =>
                                            isK IntKind.i64 v50 fun i51 =>
                                              br (decide (i51 ≤ c))
                                                (rd (World.cell? w46 { block := n2, off := (2 : Nat) : Addr }) fun v52 =>
                                                  isK IntKind.i64 v52 fun i53 =>
                                                    callV Try.prog (35 : Nat) [Value.pointer (some a), Value.bool (decide (IntKind.wrap IntKind.i64 ((0 : Int) - c) ≤ i53))] w46
                                                      fun v54 w55 => u47 (alist []) w55)
                                                (callV Try.prog (35 : Nat) [Value.pointer (some a), Value.bool false] w46 fun v56 w57 => u47 (alist []) w57)))
                                      fun u58 =>
                                      ∀ (u59 : Nat → Value) (w60 : World),
                                        u58 (alist []) w60 →
                                          rd (cellsAt w60 { block := n2, off := (0 : Nat) : Addr } (3 : Nat)) fun l62 =>
                                            rd (gd (List.length l62 == (3 : Nat))) fun _x =>
                                              stC w60 { block := n0, off := (0 : Nat) : Addr } l62 fun w63 =>
                                                rd (cellsAt w63 { block := n0, off := (0 : Nat) : Addr } (3 : Nat)) fun l64 => R (Value.agg (List.toArray l64)) w63) :
  callV Try.prog 57 [Value.pointer (some a), Value.int IntKind.i64 b, Value.int IntKind.i64 c] w R :=
  vc_of hm ⟨fun n => match n with | 4 => true | 6 => true | 8 => true | _ => false, fun _ => .done, fun n => match n with | 4 => [] | 6 => [] | 8 => [] | _ => []⟩ Try.func57 ent57 (by kernel_rfl) h

theorem vc58 (a : Addr) (w : World) (R : Value → World → Prop)
  (h : callV Try.prog (34 : Nat) [Value.pointer (some a), Value.int IntKind.i64 (31 : Int)] w fun v0 w1 =>
  isK IntKind.i64 v0 fun i2 => callV Try.prog (35 : Nat) [Value.pointer (some a), Value.bool (decide ((0 : Int) < i2))] w1 fun v3 w4 => R (Value.int IntKind.i64 i2) w4) :
  callV Try.prog 58 [Value.pointer (some a)] w R :=
  vc_of hm noHints Try.func58 ent58 (by kernel_rfl) h

theorem vc63 (a : ByteArray) (w : World) (R : Value → World → Prop)
  (h : callV Try.prog (55 : Nat) [Value.string a] w fun v0 w1 =>
  isK IntKind.u64 v0 fun i2 =>
    br (!decide (a = { data := #[] : ByteArray }))
      (runs Try.prog (Instr.index (9 : Nat) (Value.string a) (Value.int IntKind.i64 (0 : Int))) w1 fun v3 w4 =>
        isK IntKind.u8 v3 fun i5 =>
          br (decide (i5 = (49 : Int)))
            (br (decide ((↑(ByteArray.size a) : Int) < (64 : Int)))
              (R
                (Value.int IntKind.i64
                  (IntKind.wrap IntKind.i64
                    (IntKind.wrap IntKind.i64 i2 - IntKind.wrap IntKind.i64 ((1 : Int) * (2 : Int) ^ min (ByteArray.size a % (18446744073709551616 : Nat)) (64 : Nat)))))
                w4)
              (R (Value.int IntKind.i64 (IntKind.wrap IntKind.i64 i2)) w4))
            (R (Value.int IntKind.i64 (IntKind.wrap IntKind.i64 i2)) w4))
      (R (Value.int IntKind.i64 (IntKind.wrap IntKind.i64 i2)) w1)) :
  callV Try.prog 63 [Value.string a] w R :=
  vc_of hm noHints Try.func63 ent63 (by kernel_rfl) h

end Go.Proofs.Ytfekkdmnboccfaa
