/- What NetOnce needs, part 7 of 12: E1 Dg DgD DgW E2 E3 Win Del Chan ChW ChU ChV E4.  Conditions: as each part says. -/
import Derived.Test.YtipikchkbmgloaaDoorNetOnceA6
namespace Go.Proofs.YtipikchkbmgloaaDoor
set_option linter.unusedSimpArgs false
set_option linter.unusedVariables false
open Go VC
theorem vc10 (a0 : Int) (a1 : Bool) (a2 : Int) (a3 : Int) (a4p : Option Addr) (a4n : Nat) (a4c : Nat) (w : World) (R : Value → World → Prop)
  (h : allocC w (Obj.cells #[Value.int IntKind.u16 a0, Value.bool a1, Value.int IntKind.u16 a2, Value.int IntKind.u32 a3, Value.slice a4p a4n a4c] (32 : Nat)) fun n0 w1 => cutC (fun u2 => rd (World.cell? w1 { block := n0, off := (1 : Nat) : Addr }) fun v3 => isB v3 fun t4 => br (!t4) (rd (World.cell? w1 { block := n0, off := (2 : Nat) : Addr }) fun v5 => isK IntKind.u16 v5 fun i6 => br (decide ((0 : Int) < i6)) (R (Value.tuple #[Value.slice none (0 : Nat) (0 : Nat), Value.int IntKind.i64 (1 : Int)]) w1) (rd (World.cell? w1 { block := n0, off := (3 : Nat) : Addr }) fun v7 => isK IntKind.u32 v7 fun i8 => br (decide ((0 : Int) < i8)) (R (Value.tuple #[Value.slice none (0 : Nat) (0 : Nat), Value.int IntKind.i64 (1 : Int)]) w1) (u2 (alist []) w1))) (u2 (alist []) w1)) fun u9 => ∀ (u10 : Nat → Value) (w11 : World), u9 (alist []) w11 → rd (World.cell? w11 { block := n0, off := (4 : Nat) : Addr }) fun v13 => isSl v13 fun o14 n15 n16 => callV Tryd.prog (22 : Nat) [Value.slice o14 n15 n16] w11 fun v17 w18 => isTup v17 fun l19 => rd l19[(0 : Nat)]? fun v20 => isSl v20 fun o21 n22 n23 => isTup v17 fun l24 => rd l24[(1 : Nat)]? fun v25 => isK IntKind.i64 v25 fun i26 => br (!decide (i26 = (0 : Int))) (R (Value.tuple #[Value.slice none (0 : Nat) (0 : Nat), Value.int IntKind.i64 i26]) w18) (heldC (World.drew w18) fun u27 => (∀ (w28 : World), u27 w28 → Value.pointer (some { block := n0, off := (0 : Nat) : Addr }) = Value.pointer (some { block := n0, off := (0 : Nat) : Addr }) ∧ w28 = w28) ∧ rd (World.cell? (World.drew w18) { block := n0, off := (0 : Nat) : Addr }) fun v30 => (∀ (w31 : World), u27 w31 → rd (World.cell? w31 { block := n0, off := (0 : Nat) : Addr }) fun v33 => v33 = v30 ∧ w31 = w31) ∧ isK IntKind.u16 v30 fun i34 => (∀ (w35 : World), u27 w35 → Value.int IntKind.u32 (IntKind.wrap IntKind.u32 i34) = Value.int IntKind.u32 (IntKind.wrap IntKind.u32 i34) ∧ w35 = w35) ∧ (∀ (w37 : World), u27 w37 → Value.pointer (some { block := n0, off := (1 : Nat) : Addr }) = Value.pointer (some { block := n0, off := (1 : Nat) : Addr }) ∧ w37 = w37) ∧ rd (World.cell? (World.drew w18) { block := n0, off := (1 : Nat) : Addr }) fun v39 => (∀ (w40 : World), u27 w40 → rd (World.cell? w40 { block := n0, off := (1 : Nat) : Addr }) fun v42 => v42 = v39 ∧ w40 = w40) ∧ isB v39 fun t43 => (∀ (w44 : World), u27 w44 → Value.pointer (some { block := n0, off := (2 : Nat) : Addr }) = Value.pointer (some { block := n0, off := (2 : Nat) : Addr }) ∧ w44 = w44) ∧ rd (World.cell? (World.drew w18) { block := n0, off := (2 : Nat) : Addr }) fun v46 => (∀ (w47 : World), u27 w47 → rd (World.cell? w47 { block := n0, off := (2 : Nat) : Addr }) fun v49 => v49 = v46 ∧ w47 = w47) ∧ isK IntKind.u16 v46 fun i50 => (∀ (w51 : World), u27 w51 → Value.int IntKind.u32 (IntKind.wrap IntKind.u32 i50) = Value.int IntKind.u32 (IntKind.wrap IntKind.u32 i50) ∧ w51 = w51) ∧ (∀ (w53 : World), u27 w53 → Value.pointer (some { block := n0, off := (3 : Nat) : Addr }) = Value.pointer (some { block := n0, off := (3 : Nat) : Addr }) ∧ w53 = w53) ∧ rd (World.cell? (World.drew w18) { block := n0, off := (3 : Nat) : Addr }) fun v55 => (∀ (w56 : World), u27 w56 → rd (World.cell? w56 { block := n0, off := (3 : Nat) : Addr }) fun v58 => v58 = v55 ∧ w56 = w56) ∧ isK IntKind.u32 v55 fun i59 => callV Tryd.prog (23 : Nat) [Value.slice none (0 : Nat) (0 : Nat), Value.int IntKind.u32 (IntKind.wrap IntKind.u32 i34), Value.int IntKind.i64 (2 : Int)] (World.drew w18) fun v60 w61 => isSl v60 fun o62 n63 n64 => u27 w61 ∧ callV Tryd.prog (24 : Nat) [Value.bool t43] w61 fun v65 w66 => isK IntKind.u32 v65 fun i67 => u27 w66 ∧ callV Tryd.prog (23 : Nat) [Value.slice o62 n63 n64, Value.int IntKind.u32 i67, Value.int IntKind.i64 (1 : Int)] w66 fun v68 w69 => isSl v68 fun o70 n71 n72 => u27 w69 ∧ callV Tryd.prog (23 : Nat) [Value.slice o70 n71 n72, Value.int IntKind.u32 (IntKind.wrap IntKind.u32 i50), Value.int IntKind.i64 (2 : Int)] w69 fun v73 w74 => isSl v73 fun o75 n76 n77 => u27 w74 ∧ callV Tryd.prog (23 : Nat) [Value.slice o75 n76 n77, Value.int IntKind.u32 i59, Value.int IntKind.i64 (4 : Int)] w74 fun v78 w79 => isSl v78 fun o80 n81 n82 => u27 w79 ∧ (∀ (w83 : World), u27 w83 → Value.slice o80 n81 n82 = Value.slice o80 n81 n82 ∧ w83 = w83) ∧ runs Tryd.prog (Builtin.append_ #[(25 : Nat), (25 : Nat)] (25 : Nat) #[Value.slice o80 n81 n82, Value.slice o21 n22 n23]) w79 fun v85 w86 => isSl v85 fun o87 n88 n89 => callV Tryd.prog (25 : Nat) [Value.slice o87 n88 n89] w86 fun v90 w91 => isK IntKind.u16 v90 fun i92 => callV Tryd.prog (23 : Nat) [Value.slice o87 n88 n89, Value.int IntKind.u32 (IntKind.wrap IntKind.u32 i92), Value.int IntKind.i64 (2 : Int)] w91 fun v93 w94 => isSl v93 fun o95 n96 n97 => br (decide ((1024 : Int) < (↑n96 : Int))) (R (Value.tuple #[Value.slice none (0 : Nat) (0 : Nat), Value.int IntKind.i64 (5 : Int)]) w94) (R (Value.tuple #[Value.slice o95 n96 n97, Value.int IntKind.i64 (0 : Int)]) w94))) :
  callV Tryd.prog 10 [Value.agg #[Value.int IntKind.u16 a0, Value.bool a1, Value.int IntKind.u16 a2, Value.int IntKind.u32 a3, Value.slice a4p a4n a4c]] w R :=
  vc_of hm ⟨fun n => match n with | 3 => true | _ => false, fun n => match n with | 6 => .take 0 (.take 1 (.take 2 (.take 4 (.take 5 (.take 8 (.take 9 (.take 10 (.take 12 (.take 13 (.one 3 (.one 6 (.one 7 (.one 11 (.one 14 (.take 15 (.done)))))))))))))))) | _ => .done, fun n => match n with | 3 => [] | _ => []⟩ Tryd.func10 ent10 (by kernel_rfl) h

theorem vc11 (a0 : Int) (a1 : Bool) (a2 : Int) (a3 : Int) (a4p : Option Addr) (a4n : Nat) (a4c : Nat) (w : World) (R : Value → World → Prop)
  (h : allocC w (Obj.cells #[Value.int IntKind.u16 a0, Value.bool a1, Value.int IntKind.u16 a2, Value.int IntKind.u32 a3, Value.slice a4p a4n a4c] (35 : Nat)) fun n0 w1 => cutC (fun u2 => rd (World.cell? w1 { block := n0, off := (1 : Nat) : Addr }) fun v3 => isB v3 fun t4 => br t4 (u2 (alist [((4 : Nat), Value.string { data := #[(1 : UInt8)] : ByteArray })]) w1) (u2 (alist [((4 : Nat), Value.string { data := #[(0 : UInt8)] : ByteArray })]) w1)) fun u5 => ∀ (u6 : Nat → Value) (w7 : World), u5 (alist [((4 : Nat), u6 (4 : Nat))]) w7 → cutC (fun u9 => rd (World.cell? w7 { block := n0, off := (1 : Nat) : Addr }) fun v10 => isB v10 fun t11 => br (!t11) (rd (World.cell? w7 { block := n0, off := (2 : Nat) : Addr }) fun v12 => isK IntKind.u16 v12 fun i13 => br (!decide (i13 = (0 : Int))) (R (Value.tuple #[Value.string { data := #[] : ByteArray }, Value.int IntKind.i64 (1 : Int)]) w7) (rd (World.cell? w7 { block := n0, off := (3 : Nat) : Addr }) fun v14 => isK IntKind.u32 v14 fun i15 => br (!decide (i15 = (0 : Int))) (R (Value.tuple #[Value.string { data := #[] : ByteArray }, Value.int IntKind.i64 (1 : Int)]) w7) (u9 (alist []) w7))) (u9 (alist []) w7)) fun u16 => ∀ (u17 : Nat → Value) (w18 : World), u16 (alist []) w18 → rd (World.cell? w18 { block := n0, off := (4 : Nat) : Addr }) fun v20 => isSl v20 fun o21 n22 n23 => callV Tryd.prog (26 : Nat) [Value.slice o21 n22 n23] w18 fun v24 w25 => isTup v24 fun l26 => rd l26[(0 : Nat)]? fun v27 => isStr v27 fun x28 => isTup v24 fun l29 => rd l29[(1 : Nat)]? fun v30 => isK IntKind.i64 v30 fun i31 => br (!decide (i31 = (0 : Int))) (R (Value.tuple #[Value.string { data := #[] : ByteArray }, Value.int IntKind.i64 i31]) w25) (heldC (World.drew w25) fun u32 => (∀ (w33 : World), u32 w33 → Value.pointer (some { block := n0, off := (0 : Nat) : Addr }) = Value.pointer (some { block := n0, off := (0 : Nat) : Addr }) ∧ w33 = w33) ∧ rd (World.cell? (World.drew w25) { block := n0, off := (0 : Nat) : Addr }) fun v35 => (∀ (w36 : World), u32 w36 → rd (World.cell? w36 { block := n0, off := (0 : Nat) : Addr }) fun v38 => v38 = v35 ∧ w36 = w36) ∧ isK IntKind.u16 v35 fun i39 => (∀ (w40 : World), u32 w40 → Value.int IntKind.i64 (IntKind.wrap IntKind.i64 i39) = Value.int IntKind.i64 (IntKind.wrap IntKind.i64 i39) ∧ w40 = w40) ∧ (∀ (w42 : World), u32 w42 → u6 (4 : Nat) = u6 (4 : Nat) ∧ w42 = w42) ∧ isStr (u6 (4 : Nat)) fun x44 => (∀ (w45 : World), u32 w45 → Value.pointer (some { block := n0, off := (2 : Nat) : Addr }) = Value.pointer (some { block := n0, off := (2 : Nat) : Addr }) ∧ w45 = w45) ∧ rd (World.cell? (World.drew w25) { block := n0, off := (2 : Nat) : Addr }) fun v47 => (∀ (w48 : World), u32 w48 → rd (World.cell? w48 { block := n0, off := (2 : Nat) : Addr }) fun v50 => v50 = v47 ∧ w48 = w48) ∧ isK IntKind.u16 v47 fun i51 => (∀ (w52 : World), u32 w52 → Value.int IntKind.i64 (IntKind.wrap IntKind.i64 i51) = Value.int IntKind.i64 (IntKind.wrap IntKind.i64 i51) ∧ w52 = w52) ∧ (∀ (w54 : World), u32 w54 → Value.pointer (some { block := n0, off := (3 : Nat) : Addr }) = Value.pointer (some { block := n0, off := (3 : Nat) : Addr }) ∧ w54 = w54) ∧ rd (World.cell? (World.drew w25) { block := n0, off := (3 : Nat) : Addr }) fun v56 => (∀ (w57 : World), u32 w57 → rd (World.cell? w57 { block := n0, off := (3 : Nat) : Addr }) fun v59 => v59 = v56 ∧ w57 = w57) ∧ isK IntKind.u32 v56 fun i60 => (∀ (w61 : World), u32 w61 → Value.int IntKind.u32 (IntKind.wrap IntKind.u32 (Int.tdiv i60 (65536 : Int))) = Value.int IntKind.u32 (IntKind.wrap IntKind.u32 (Int.tdiv i60 (65536 : Int))) ∧ w61 = w61) ∧ (∀ (w63 : World), u32 w63 → Value.int IntKind.i64 (IntKind.wrap IntKind.i64 (IntKind.wrap IntKind.u32 (Int.tdiv i60 (65536 : Int)))) = Value.int IntKind.i64 (IntKind.wrap IntKind.i64 (IntKind.wrap IntKind.u32 (Int.tdiv i60 (65536 : Int)))) ∧ w63 = w63) ∧ (∀ (w65 : World), u32 w65 → Value.pointer (some { block := n0, off := (3 : Nat) : Addr }) = Value.pointer (some { block := n0, off := (3 : Nat) : Addr }) ∧ w65 = w65) ∧ rd (World.cell? (World.drew w25) { block := n0, off := (3 : Nat) : Addr }) fun v67 => (∀ (w68 : World), u32 w68 → rd (World.cell? w68 { block := n0, off := (3 : Nat) : Addr }) fun v70 => v70 = v67 ∧ w68 = w68) ∧ isK IntKind.u32 v67 fun i71 => (∀ (w72 : World), u32 w72 → Value.int IntKind.u32 (Int.tmod i71 (65536 : Int)) = Value.int IntKind.u32 (Int.tmod i71 (65536 : Int)) ∧ w72 = w72) ∧ (∀ (w74 : World), u32 w74 → Value.int IntKind.i64 (IntKind.wrap IntKind.i64 (Int.tmod i71 (65536 : Int))) = Value.int IntKind.i64 (IntKind.wrap IntKind.i64 (Int.tmod i71 (65536 : Int))) ∧ w74 = w74) ∧ (∀ (w76 : World), u32 w76 → Value.string x28 = Value.string x28 ∧ w76 = w76) ∧ callV Tryd.prog (27 : Nat) [Value.int IntKind.i64 (IntKind.wrap IntKind.i64 i39)] (World.drew w25) fun v78 w79 => isStr v78 fun x80 => u32 w79 ∧ rd (orO (binV BinOp.add (Value.string x80) (Value.string x44)) none) fun v81 => (∀ (w82 : World), u32 w82 → rd (orO (binV BinOp.add (Value.string x80) (Value.string x44)) none) fun v84 => v84 = v81 ∧ w82 = w82) ∧ isStr v81 fun x85 => callV Tryd.prog (27 : Nat) [Value.int IntKind.i64 (IntKind.wrap IntKind.i64 i51)] w79 fun v86 w87 => isStr v86 fun x88 => u32 w87 ∧ rd (orO (binV BinOp.add (Value.string x85) (Value.string x88)) none) fun v89 => (∀ (w90 : World), u32 w90 → rd (orO (binV BinOp.add (Value.string x85) (Value.string x88)) none) fun v92 => v92 = v89 ∧ w90 = w90) ∧ isStr v89 fun x93 => callV Tryd.prog (27 : Nat) [Value.int IntKind.i64 (IntKind.wrap IntKind.i64 (IntKind.wrap IntKind.u32 (Int.tdiv i60 (65536 : Int))))] w87 fun v94 w95 => isStr v94 fun x96 => u32 w95 ∧ rd (orO (binV BinOp.add (Value.string x93) (Value.string x96)) none) fun v97 => (∀ (w98 : World), u32 w98 → rd (orO (binV BinOp.add (Value.string x93) (Value.string x96)) none) fun v100 => v100 = v97 ∧ w98 = w98) ∧ isStr v97 fun x101 => callV Tryd.prog (27 : Nat) [Value.int IntKind.i64 (IntKind.wrap IntKind.i64 (Int.tmod i71 (65536 : Int)))] w95 fun v102 w103 => isStr v102 fun x104 => u32 w103 ∧ rd (orO (binV BinOp.add (Value.string x101) (Value.string x104)) none) fun v105 => (∀ (w106 : World), u32 w106 → rd (orO (binV BinOp.add (Value.string x101) (Value.string x104)) none) fun v108 => v108 = v105 ∧ w106 = w106) ∧ isStr v105 fun x109 => rd (orO (binV BinOp.add (Value.string x109) (Value.string x28)) none) fun v110 => (∀ (w111 : World), u32 w111 → rd (orO (binV BinOp.add (Value.string x109) (Value.string x28)) none) fun v113 => v113 = v110 ∧ w111 = w111) ∧ isStr v110 fun x114 => (∀ (w115 : World), u32 w115 → Value.string x114 = Value.string x114 ∧ w115 = w115) ∧ callV Tryd.prog (28 : Nat) [Value.string x114] w103 fun v117 w118 => isK IntKind.u16 v117 fun i119 => callV Tryd.prog (27 : Nat) [Value.int IntKind.i64 (IntKind.wrap IntKind.i64 i119)] w118 fun v120 w121 => isStr v120 fun x122 => rd (orO (binV BinOp.add (Value.string x114) (Value.string x122)) none) fun v123 => isStr v123 fun x124 => br (decide ((1024 : Int) < (↑(ByteArray.size x124) : Int))) (R (Value.tuple #[Value.string { data := #[] : ByteArray }, Value.int IntKind.i64 (5 : Int)]) w121) (R (Value.tuple #[Value.string x124, Value.int IntKind.i64 (0 : Int)]) w121))) :
  callV Tryd.prog 11 [Value.agg #[Value.int IntKind.u16 a0, Value.bool a1, Value.int IntKind.u16 a2, Value.int IntKind.u32 a3, Value.slice a4p a4n a4c]] w R :=
  vc_of hm ⟨fun n => match n with | 4 => true | 6 => true | _ => false, fun n => match n with | 9 => .take 0 (.take 1 (.take 2 (.take 4 (.take 6 (.take 7 (.take 8 (.take 11 (.take 12 (.take 13 (.take 14 (.take 17 (.take 18 (.take 19 (.take 20 (.take 23 (.one 3 (.take 5 (.one 9 (.take 10 (.one 15 (.take 16 (.one 21 (.take 22 (.take 24 (.take 25 (.done)))))))))))))))))))))))))) | _ => .done, fun n => match n with | 4 => [4] | 6 => [] | _ => []⟩ Tryd.func11 ent11 (by kernel_rfl) h

theorem vc12 (ap : Option Addr) (an : Nat) (ac : Nat) (w : World) (R : Value → World → Prop)
  (h : allocC w (Obj.cells #[Value.int IntKind.u16 (0 : Int), Value.bool false, Value.int IntKind.u16 (0 : Int), Value.int IntKind.u32 (0 : Int), Value.slice none (0 : Nat) (0 : Nat)] (32 : Nat)) fun n0 w1 => br (decide ((↑an : Int) < (11 : Int))) (stC w1 { block := n0, off := (0 : Nat) : Addr } [Value.int IntKind.u16 (0 : Int), Value.bool false, Value.int IntKind.u16 (0 : Int), Value.int IntKind.u32 (0 : Int), Value.slice none (0 : Nat) (0 : Nat)] fun w2 => rd (cellsAt w2 { block := n0, off := (0 : Nat) : Addr } (5 : Nat)) fun l3 => R (Value.tuple #[Value.agg (List.toArray l3), Value.int IntKind.i64 (2 : Int)]) w2) (heldC (World.drew w1) fun u4 => (∀ (w5 : World), u4 w5 → Value.slice ap an ac = Value.slice ap an ac ∧ w5 = w5) ∧ (∀ (w7 : World), u4 w7 → Value.slice ap an ac = Value.slice ap an ac ∧ w7 = w7) ∧ (∀ (w9 : World), u4 w9 → Value.int IntKind.i64 (↑an : Int) = Value.int IntKind.i64 (↑an : Int) ∧ w9 = w9) ∧ (∀ (w11 : World), u4 w11 → Value.int IntKind.i64 (IntKind.wrap IntKind.i64 ((↑an : Int) - (2 : Int))) = Value.int IntKind.i64 (IntKind.wrap IntKind.i64 ((↑an : Int) - (2 : Int))) ∧ w11 = w11) ∧ runs Tryd.prog (Instr.sliceAt (25 : Nat) (Value.slice ap an ac) none (some (Value.int IntKind.i64 (IntKind.wrap IntKind.i64 ((↑an : Int) - (2 : Int))))) none) (World.drew w1) fun v13 w14 => (∀ (w15 : World), u4 w15 → runs Tryd.prog (Instr.sliceAt (25 : Nat) (Value.slice ap an ac) none (some (Value.int IntKind.i64 (IntKind.wrap IntKind.i64 ((↑an : Int) - (2 : Int))))) none) w15 fun v17 w18 => v17 = v13 ∧ w18 = w15) ∧ isSl v13 fun o19 n20 n21 => (∀ (w22 : World), u4 w22 → Value.slice ap an ac = Value.slice ap an ac ∧ w22 = w22) ∧ (∀ (w24 : World), u4 w24 → Value.slice ap an ac = Value.slice ap an ac ∧ w24 = w24) ∧ (∀ (w26 : World), u4 w26 → Value.int IntKind.i64 (↑an : Int) = Value.int IntKind.i64 (↑an : Int) ∧ w26 = w26) ∧ (∀ (w28 : World), u4 w28 → Value.int IntKind.i64 (IntKind.wrap IntKind.i64 ((↑an : Int) - (2 : Int))) = Value.int IntKind.i64 (IntKind.wrap IntKind.i64 ((↑an : Int) - (2 : Int))) ∧ w28 = w28) ∧ runs Tryd.prog (Instr.sliceAt (25 : Nat) (Value.slice ap an ac) (some (Value.int IntKind.i64 (IntKind.wrap IntKind.i64 ((↑an : Int) - (2 : Int))))) none none) (World.drew w1) fun v30 w31 => (∀ (w32 : World), u4 w32 → runs Tryd.prog (Instr.sliceAt (25 : Nat) (Value.slice ap an ac) (some (Value.int IntKind.i64 (IntKind.wrap IntKind.i64 ((↑an : Int) - (2 : Int))))) none none) w32 fun v34 w35 => v34 = v30 ∧ w35 = w32) ∧ isSl v30 fun o36 n37 n38 => (∀ (w39 : World), u4 w39 → Value.slice o19 n20 n21 = Value.slice o19 n20 n21 ∧ w39 = w39) ∧ (∀ (w41 : World), u4 w41 → Value.slice o36 n37 n38 = Value.slice o36 n37 n38 ∧ w41 = w41) ∧ callV Tryd.prog (29 : Nat) [Value.slice o36 n37 n38] (World.drew w1) fun v43 w44 => isK IntKind.u32 v43 fun i45 => callV Tryd.prog (25 : Nat) [Value.slice o19 n20 n21] w44 fun v46 w47 => isK IntKind.u16 v46 fun i48 => br (!decide (i45 = IntKind.wrap IntKind.u32 i48)) (stC w47 { block := n0, off := (0 : Nat) : Addr } [Value.int IntKind.u16 (0 : Int), Value.bool false, Value.int IntKind.u16 (0 : Int), Value.int IntKind.u32 (0 : Int), Value.slice none (0 : Nat) (0 : Nat)] fun w49 => rd (cellsAt w49 { block := n0, off := (0 : Nat) : Addr } (5 : Nat)) fun l50 => R (Value.tuple #[Value.agg (List.toArray l50), Value.int IntKind.i64 (4 : Int)]) w49) (cutC (fun u51 => heldC (World.drew w47) fun u52 => (∀ (w53 : World), u52 w53 → Value.slice ap an ac = Value.slice ap an ac ∧ w53 = w53) ∧ runs Tryd.prog (Instr.sliceAt (25 : Nat) (Value.slice ap an ac) none (some (Value.int IntKind.i64 (2 : Int))) none) (World.drew w47) fun v55 w56 => (∀ (w57 : World), u52 w57 → runs Tryd.prog (Instr.sliceAt (25 : Nat) (Value.slice ap an ac) none (some (Value.int IntKind.i64 (2 : Int))) none) w57 fun v59 w60 => v59 = v55 ∧ w60 = w57) ∧ isSl v55 fun o61 n62 n63 => (∀ (w64 : World), u52 w64 → Value.slice ap an ac = Value.slice ap an ac ∧ w64 = w64) ∧ rd ap fun a66 => ((0 : Int) ≤ (2 : Int) ∧ (2 : Int) < (↑an : Int)) ∧ (∀ (w67 : World), u52 w67 → rd ap fun a69 => ((0 : Int) ≤ (2 : Int) ∧ (2 : Int) < (↑an : Int)) ∧ Value.pointer (some (Addr.add a69 (2 : Nat))) = Value.pointer (some (Addr.add a66 (2 : Nat))) ∧ w67 = w67) ∧ rd (World.cell? (World.drew w47) (Addr.add a66 (2 : Nat))) fun v70 => (∀ (w71 : World), u52 w71 → rd (World.cell? w71 (Addr.add a66 (2 : Nat))) fun v73 => v73 = v70 ∧ w71 = w71) ∧ isK IntKind.u8 v70 fun i74 => (∀ (w75 : World), u52 w75 → Value.bool (decide (i74 = (1 : Int))) = Value.bool (decide (i74 = (1 : Int))) ∧ w75 = w75) ∧ (∀ (w77 : World), u52 w77 → Value.slice ap an ac = Value.slice ap an ac ∧ w77 = w77) ∧ runs Tryd.prog (Instr.sliceAt (25 : Nat) (Value.slice ap an ac) (some (Value.int IntKind.i64 (3 : Int))) (some (Value.int IntKind.i64 (5 : Int))) none) (World.drew w47) fun v79 w80 => (∀ (w81 : World), u52 w81 → runs Tryd.prog (Instr.sliceAt (25 : Nat) (Value.slice ap an ac) (some (Value.int IntKind.i64 (3 : Int))) (some (Value.int IntKind.i64 (5 : Int))) none) w81 fun v83 w84 => v83 = v79 ∧ w84 = w81) ∧ isSl v79 fun o85 n86 n87 => (∀ (w88 : World), u52 w88 → Value.slice ap an ac = Value.slice ap an ac ∧ w88 = w88) ∧ runs Tryd.prog (Instr.sliceAt (25 : Nat) (Value.slice ap an ac) (some (Value.int IntKind.i64 (5 : Int))) (some (Value.int IntKind.i64 (9 : Int))) none) (World.drew w47) fun v90 w91 => (∀ (w92 : World), u52 w92 → runs Tryd.prog (Instr.sliceAt (25 : Nat) (Value.slice ap an ac) (some (Value.int IntKind.i64 (5 : Int))) (some (Value.int IntKind.i64 (9 : Int))) none) w92 fun v94 w95 => v94 = v90 ∧ w95 = w92) ∧ isSl v90 fun o96 n97 n98 => (callV Tryd.prog (29 : Nat) [Value.slice o61 n62 n63] (World.drew w47) fun v99 w100 => isK IntKind.u32 v99 fun i101 => u52 w100 ∧ (∀ (w102 : World), u52 w102 → Value.int IntKind.u16 (IntKind.wrap IntKind.u16 i101) = Value.int IntKind.u16 (IntKind.wrap IntKind.u16 i101) ∧ w102 = w102) ∧ (callV Tryd.prog (29 : Nat) [Value.slice o85 n86 n87] w100 fun v104 w105 => isK IntKind.u32 v104 fun i106 => u52 w105 ∧ (∀ (w107 : World), u52 w107 → Value.int IntKind.u16 (IntKind.wrap IntKind.u16 i106) = Value.int IntKind.u16 (IntKind.wrap IntKind.u16 i106) ∧ w107 = w107) ∧ (callV Tryd.prog (29 : Nat) [Value.slice o96 n97 n98] w105 fun v109 w110 => isK IntKind.u32 v109 fun i111 => u52 w110 ∧ (∀ (w112 : World), u52 w112 → Value.agg #[Value.int IntKind.u16 (IntKind.wrap IntKind.u16 i101), Value.bool (decide (i74 = (1 : Int))), Value.int IntKind.u16 (IntKind.wrap IntKind.u16 i106), Value.int IntKind.u32 i111, Value.slice none (0 : Nat) (0 : Nat)] = Value.agg #[Value.int IntKind.u16 (IntKind.wrap IntKind.u16 i101), Value.bool (decide (i74 = (1 : Int))), Value.int IntKind.u16 (IntKind.wrap IntKind.u16 i106), Value.int IntKind.u32 i111, Value.slice none (0 : Nat) (0 : Nat)] ∧ w112 = w112) ∧ allocC w110 (Obj.cells #[Value.int IntKind.u16 (0 : Int), Value.bool false, Value.int IntKind.u16 (0 : Int), Value.int IntKind.u32 (0 : Int), Value.slice none (0 : Nat) (0 : Nat)] (32 : Nat)) fun n114 w115 => u52 w115 ∧ stC w115 { block := n114, off := (0 : Nat) : Addr } [Value.int IntKind.u16 (IntKind.wrap IntKind.u16 i101), Value.bool (decide (i74 = (1 : Int))), Value.int IntKind.u16 (IntKind.wrap IntKind.u16 i106), Value.int IntKind.u32 i111, Value.slice none (0 : Nat) (0 : Nat)] fun w116 => u51 (alist [((6 : Nat), Value.pointer (some { block := n114, off := (0 : Nat) : Addr }))]) w116) ∧ allocC w105 (Obj.cells #[Value.int IntKind.u16 (0 : Int), Value.bool false, Value.int IntKind.u16 (0 : Int), Value.int IntKind.u32 (0 : Int), Value.slice none (0 : Nat) (0 : Nat)] (32 : Nat)) fun n117 w118 => u52 w118 ∧ callV Tryd.prog (29 : Nat) [Value.slice o96 n97 n98] w118 fun v119 w120 => isK IntKind.u32 v119 fun i121 => u52 w120 ∧ (∀ (w122 : World), u52 w122 → Value.agg #[Value.int IntKind.u16 (IntKind.wrap IntKind.u16 i101), Value.bool (decide (i74 = (1 : Int))), Value.int IntKind.u16 (IntKind.wrap IntKind.u16 i106), Value.int IntKind.u32 i121, Value.slice none (0 : Nat) (0 : Nat)] = Value.agg #[Value.int IntKind.u16 (IntKind.wrap IntKind.u16 i101), Value.bool (decide (i74 = (1 : Int))), Value.int IntKind.u16 (IntKind.wrap IntKind.u16 i106), Value.int IntKind.u32 i121, Value.slice none (0 : Nat) (0 : Nat)] ∧ w122 = w122) ∧ stC w120 { block := n117, off := (0 : Nat) : Addr } [Value.int IntKind.u16 (IntKind.wrap IntKind.u16 i101), Value.bool (decide (i74 = (1 : Int))), Value.int IntKind.u16 (IntKind.wrap IntKind.u16 i106), Value.int IntKind.u32 i121, Value.slice none (0 : Nat) (0 : Nat)] fun w124 => u51 (alist [((6 : Nat), Value.pointer (some { block := n117, off := (0 : Nat) : Addr }))]) w124) ∧ allocC w100 (Obj.cells #[Value.int IntKind.u16 (0 : Int), Value.bool false, Value.int IntKind.u16 (0 : Int), Value.int IntKind.u32 (0 : Int), Value.slice none (0 : Nat) (0 : Nat)] (32 : Nat)) fun n125 w126 => u52 w126 ∧ callV Tryd.prog (29 : Nat) [Value.slice o85 n86 n87] w126 fun v127 w128 => isK IntKind.u32 v127 fun i129 => u52 w128 ∧ (∀ (w130 : World), u52 w130 → Value.int IntKind.u16 (IntKind.wrap IntKind.u16 i129) = Value.int IntKind.u16 (IntKind.wrap IntKind.u16 i129) ∧ w130 = w130) ∧ callV Tryd.prog (29 : Nat) [Value.slice o96 n97 n98] w128 fun v132 w133 => isK IntKind.u32 v132 fun i134 => u52 w133 ∧ (∀ (w135 : World), u52 w135 → Value.agg #[Value.int IntKind.u16 (IntKind.wrap IntKind.u16 i101), Value.bool (decide (i74 = (1 : Int))), Value.int IntKind.u16 (IntKind.wrap IntKind.u16 i129), Value.int IntKind.u32 i134, Value.slice none (0 : Nat) (0 : Nat)] = Value.agg #[Value.int IntKind.u16 (IntKind.wrap IntKind.u16 i101), Value.bool (decide (i74 = (1 : Int))), Value.int IntKind.u16 (IntKind.wrap IntKind.u16 i129), Value.int IntKind.u32 i134, Value.slice none (0 : Nat) (0 : Nat)] ∧ w135 = w135) ∧ stC w133 { block := n125, off := (0 : Nat) : Addr } [Value.int IntKind.u16 (IntKind.wrap IntKind.u16 i101), Value.bool (decide (i74 = (1 : Int))), Value.int IntKind.u16 (IntKind.wrap IntKind.u16 i129), Value.int IntKind.u32 i134, Value.slice none (0 : Nat) (0 : Nat)] fun w137 => u51 (alist [((6 : Nat), Value.pointer (some { block := n125, off := (0 : Nat) : Addr }))]) w137) ∧ allocC (World.drew w47) (Obj.cells #[Value.int IntKind.u16 (0 : Int), Value.bool false, Value.int IntKind.u16 (0 : Int), Value.int IntKind.u32 (0 : Int), Value.slice none (0 : Nat) (0 : Nat)] (32 : Nat)) fun n138 w139 => u52 w139 ∧ callV Tryd.prog (29 : Nat) [Value.slice o61 n62 n63] w139 fun v140 w141 => isK IntKind.u32 v140 fun i142 => u52 w141 ∧ (∀ (w143 : World), u52 w143 → Value.int IntKind.u16 (IntKind.wrap IntKind.u16 i142) = Value.int IntKind.u16 (IntKind.wrap IntKind.u16 i142) ∧ w143 = w143) ∧ callV Tryd.prog (29 : Nat) [Value.slice o85 n86 n87] w141 fun v145 w146 => isK IntKind.u32 v145 fun i147 => u52 w146 ∧ (∀ (w148 : World), u52 w148 → Value.int IntKind.u16 (IntKind.wrap IntKind.u16 i147) = Value.int IntKind.u16 (IntKind.wrap IntKind.u16 i147) ∧ w148 = w148) ∧ callV Tryd.prog (29 : Nat) [Value.slice o96 n97 n98] w146 fun v150 w151 => isK IntKind.u32 v150 fun i152 => u52 w151 ∧ (∀ (w153 : World), u52 w153 → Value.agg #[Value.int IntKind.u16 (IntKind.wrap IntKind.u16 i142), Value.bool (decide (i74 = (1 : Int))), Value.int IntKind.u16 (IntKind.wrap IntKind.u16 i147), Value.int IntKind.u32 i152, Value.slice none (0 : Nat) (0 : Nat)] = Value.agg #[Value.int IntKind.u16 (IntKind.wrap IntKind.u16 i142), Value.bool (decide (i74 = (1 : Int))), Value.int IntKind.u16 (IntKind.wrap IntKind.u16 i147), Value.int IntKind.u32 i152, Value.slice none (0 : Nat) (0 : Nat)] ∧ w153 = w153) ∧ stC w151 { block := n138, off := (0 : Nat) : Addr } [Value.int IntKind.u16 (IntKind.wrap IntKind.u16 i142), Value.bool (decide (i74 = (1 : Int))), Value.int IntKind.u16 (IntKind.wrap IntKind.u16 i147), Value.int IntKind.u32 i152, Value.slice none (0 : Nat) (0 : Nat)] fun w155 => u51 (alist [((6 : Nat), Value.pointer (some { block := n138, off := (0 : Nat) : Addr }))]) w155) fun u156 => ∀ (u157 : Nat → Value) (w158 : World), u156 (alist [((6 : Nat), u157 (6 : Nat))]) w158 → cutC (fun u160 => br (decide ((1024 : Int) < (↑an : Int))) (stC w158 { block := n0, off := (0 : Nat) : Addr } [Value.int IntKind.u16 (0 : Int), Value.bool false, Value.int IntKind.u16 (0 : Int), Value.int IntKind.u32 (0 : Int), Value.slice none (0 : Nat) (0 : Nat)] fun w161 => rd (cellsAt w161 { block := n0, off := (0 : Nat) : Addr } (5 : Nat)) fun l162 => R (Value.tuple #[Value.agg (List.toArray l162), Value.int IntKind.i64 (3 : Int)]) w161) (rd ap fun a163 => ((0 : Int) ≤ (2 : Int) ∧ (2 : Int) < (↑an : Int)) ∧ rd (World.cell? w158 (Addr.add a163 (2 : Nat))) fun v164 => isK IntKind.u8 v164 fun i165 => br (decide ((1 : Int) < i165)) (stC w158 { block := n0, off := (0 : Nat) : Addr } [Value.int IntKind.u16 (0 : Int), Value.bool false, Value.int IntKind.u16 (0 : Int), Value.int IntKind.u32 (0 : Int), Value.slice none (0 : Nat) (0 : Nat)] fun w166 => rd (cellsAt w166 { block := n0, off := (0 : Nat) : Addr } (5 : Nat)) fun l167 => R (Value.tuple #[Value.agg (List.toArray l167), Value.int IntKind.i64 (3 : Int)]) w166) (isPtr (u157 (6 : Nat)) fun a168 => rd (World.cell? w158 (Addr.add a168 (1 : Nat))) fun v169 => isB v169 fun t170 => br (!t170) (isPtr (u157 (6 : Nat)) fun a171 => rd (World.cell? w158 (Addr.add a171 (2 : Nat))) fun v172 => isK IntKind.u16 v172 fun i173 => br (decide ((0 : Int) < i173)) (stC w158 { block := n0, off := (0 : Nat) : Addr } [Value.int IntKind.u16 (0 : Int), Value.bool false, Value.int IntKind.u16 (0 : Int), Value.int IntKind.u32 (0 : Int), Value.slice none (0 : Nat) (0 : Nat)] fun w174 => rd (cellsAt w174 { block := n0, off := (0 : Nat) : Addr } (5 : Nat)) fun l175 => R (Value.tuple #[Value.agg (List.toArray l175), Value.int IntKind.i64 (3 : Int)]) w174) (isPtr (u157 (6 : Nat)) fun a176 => rd (World.cell? w158 (Addr.add a176 (3 : Nat))) fun v177 => isK IntKind.u32 v177 fun i178 => br (decide ((0 : Int) < i178)) (stC w158 { block := n0, off := (0 : Nat) : Addr } [Value.int IntKind.u16 (0 : Int), Value.bool false, Value.int IntKind.u16 (0 : Int), Value.int IntKind.u32 (0 : Int), Value.slice none (0 : Nat) (0 : Nat)] fun w179 => rd (cellsAt w179 { block := n0, off := (0 : Nat) : Addr } (5 : Nat)) fun l180 => R (Value.tuple #[Value.agg (List.toArray l180), Value.int IntKind.i64 (3 : Int)]) w179) (u160 (alist []) w158))) (u160 (alist []) w158)))) fun u181 => ∀ (u182 : Nat → Value) (w183 : World), u181 (alist []) w183 → runs Tryd.prog (Instr.sliceAt (25 : Nat) (Value.slice o19 n20 n21) (some (Value.int IntKind.i64 (9 : Int))) none none) w183 fun v185 w186 => isSl v185 fun o187 n188 n189 => callV Tryd.prog (30 : Nat) [Value.slice o187 n188 n189] w186 fun v190 w191 => isTup v190 fun l192 => rd l192[(0 : Nat)]? fun v193 => isSl v193 fun o194 n195 n196 => isTup v190 fun l197 => rd l197[(1 : Nat)]? fun v198 => isK IntKind.i64 v198 fun i199 => br (!decide (i199 = (0 : Int))) (stC w191 { block := n0, off := (0 : Nat) : Addr } [Value.int IntKind.u16 (0 : Int), Value.bool false, Value.int IntKind.u16 (0 : Int), Value.int IntKind.u32 (0 : Int), Value.slice none (0 : Nat) (0 : Nat)] fun w200 => rd (cellsAt w200 { block := n0, off := (0 : Nat) : Addr } (5 : Nat)) fun l201 => R (Value.tuple #[Value.agg (List.toArray l201), Value.int IntKind.i64 i199]) w200) (isPtr (u157 (6 : Nat)) fun a202 => stC w191 (Addr.add a202 (4 : Nat)) [Value.slice o194 n195 n196] fun w203 => isPtr (u157 (6 : Nat)) fun a204 => rd (cellsAt w203 a204 (5 : Nat)) fun l205 => rd (gd (List.length l205 == (5 : Nat))) fun _x => stC w203 { block := n0, off := (0 : Nat) : Addr } l205 fun w206 => rd (cellsAt w206 { block := n0, off := (0 : Nat) : Addr } (5 : Nat)) fun l207 => R (Value.tuple #[Value.agg (List.toArray l207), Value.int IntKind.i64 (0 : Int)]) w206)))) :
  callV Tryd.prog 12 [Value.slice ap an ac] w R :=
  vc_of hm ⟨fun n => match n with | 7 => true | 9 => true | _ => false, fun n => match n with | 3 => .take 0 (.take 1 (.take 2 (.take 3 (.take 4 (.take 5 (.take 6 (.take 7 (.take 8 (.take 9 (.take 10 (.take 11 (.done)))))))))))) | 6 => .take 0 (.take 1 (.take 4 (.take 5 (.take 6 (.take 7 (.take 8 (.take 9 (.take 12 (.take 13 (.two 2 (.take 3 (.two 10 (.take 11 (.two 14 (.take 15 (.one 16 (.last 17 (.done)))) 16 (.one 14 (.take 15 (.last 17 (.done)))))) 16 (.one 10 (.take 11 (.one 14 (.take 15 (.last 17 (.done)))))))) 16 (.one 2 (.take 3 (.one 10 (.take 11 (.one 14 (.take 15 (.last 17 (.done)))))))))))))))))) | _ => .done, fun n => match n with | 7 => [6] | 9 => [] | _ => []⟩ Tryd.func12 ent12 (by kernel_rfl) h

theorem vc13 (a : ByteArray) (w : World) (R : Value → World → Prop)
  (h : allocC w (Obj.cells #[Value.int IntKind.u16 (0 : Int), Value.bool false, Value.int IntKind.u16 (0 : Int), Value.int IntKind.u32 (0 : Int), Value.slice none (0 : Nat) (0 : Nat)] (35 : Nat)) fun n0 w1 => br (decide ((↑(ByteArray.size a) : Int) < (11 : Int))) (stC w1 { block := n0, off := (0 : Nat) : Addr } [Value.int IntKind.u16 (0 : Int), Value.bool false, Value.int IntKind.u16 (0 : Int), Value.int IntKind.u32 (0 : Int), Value.slice none (0 : Nat) (0 : Nat)] fun w2 => rd (cellsAt w2 { block := n0, off := (0 : Nat) : Addr } (5 : Nat)) fun l3 => R (Value.tuple #[Value.agg (List.toArray l3), Value.int IntKind.i64 (2 : Int)]) w2) (heldC (World.drew w1) fun u4 => (∀ (w5 : World), u4 w5 → Value.string a = Value.string a ∧ w5 = w5) ∧ (∀ (w7 : World), u4 w7 → Value.int IntKind.i64 (IntKind.wrap IntKind.i64 ((↑(ByteArray.size a) : Int) - (2 : Int))) = Value.int IntKind.i64 (IntKind.wrap IntKind.i64 ((↑(ByteArray.size a) : Int) - (2 : Int))) ∧ w7 = w7) ∧ runs Tryd.prog (Instr.sliceAt (9 : Nat) (Value.string a) none (some (Value.int IntKind.i64 (IntKind.wrap IntKind.i64 ((↑(ByteArray.size a) : Int) - (2 : Int))))) none) (World.drew w1) fun v9 w10 => (∀ (w11 : World), u4 w11 → runs Tryd.prog (Instr.sliceAt (9 : Nat) (Value.string a) none (some (Value.int IntKind.i64 (IntKind.wrap IntKind.i64 ((↑(ByteArray.size a) : Int) - (2 : Int))))) none) w11 fun v13 w14 => v13 = v9 ∧ w14 = w11) ∧ isStr v9 fun x15 => (∀ (w16 : World), u4 w16 → Value.string a = Value.string a ∧ w16 = w16) ∧ (∀ (w18 : World), u4 w18 → Value.int IntKind.i64 (IntKind.wrap IntKind.i64 ((↑(ByteArray.size a) : Int) - (2 : Int))) = Value.int IntKind.i64 (IntKind.wrap IntKind.i64 ((↑(ByteArray.size a) : Int) - (2 : Int))) ∧ w18 = w18) ∧ runs Tryd.prog (Instr.sliceAt (9 : Nat) (Value.string a) (some (Value.int IntKind.i64 (IntKind.wrap IntKind.i64 ((↑(ByteArray.size a) : Int) - (2 : Int))))) none none) (World.drew w1) fun v20 w21 => (∀ (w22 : World), u4 w22 → runs Tryd.prog (Instr.sliceAt (9 : Nat) (Value.string a) (some (Value.int IntKind.i64 (IntKind.wrap IntKind.i64 ((↑(ByteArray.size a) : Int) - (2 : Int))))) none none) w22 fun v24 w25 => v24 = v20 ∧ w25 = w22) ∧ isStr v20 fun x26 => callV Tryd.prog (28 : Nat) [Value.string x15] (World.drew w1) fun v27 w28 => isK IntKind.u16 v27 fun i29 => u4 w28 ∧ (∀ (w30 : World), u4 w30 → Value.int IntKind.i64 (IntKind.wrap IntKind.i64 i29) = Value.int IntKind.i64 (IntKind.wrap IntKind.i64 i29) ∧ w30 = w30) ∧ callV Tryd.prog (27 : Nat) [Value.int IntKind.i64 (IntKind.wrap IntKind.i64 i29)] w28 fun v32 w33 => isStr v32 fun x34 => u4 w33 ∧ (∀ (w35 : World), u4 w35 → (Value.bool !decide (x34 = x26)) = Value.bool !decide (x34 = x26) ∧ w35 = w35) ∧ br (!decide (x34 = x26)) (stC w33 { block := n0, off := (0 : Nat) : Addr } [Value.int IntKind.u16 (0 : Int), Value.bool false, Value.int IntKind.u16 (0 : Int), Value.int IntKind.u32 (0 : Int), Value.slice none (0 : Nat) (0 : Nat)] fun w37 => rd (cellsAt w37 { block := n0, off := (0 : Nat) : Addr } (5 : Nat)) fun l38 => R (Value.tuple #[Value.agg (List.toArray l38), Value.int IntKind.i64 (4 : Int)]) w37) (cutC (fun u39 => br (decide ((1024 : Int) < (↑(ByteArray.size a) : Int))) (stC w33 { block := n0, off := (0 : Nat) : Addr } [Value.int IntKind.u16 (0 : Int), Value.bool false, Value.int IntKind.u16 (0 : Int), Value.int IntKind.u32 (0 : Int), Value.slice none (0 : Nat) (0 : Nat)] fun w40 => rd (cellsAt w40 { block := n0, off := (0 : Nat) : Addr } (5 : Nat)) fun l41 => R (Value.tuple #[Value.agg (List.toArray l41), Value.int IntKind.i64 (3 : Int)]) w40) (runs Tryd.prog (Instr.index (9 : Nat) (Value.string a) (Value.int IntKind.i64 (2 : Int))) w33 fun v42 w43 => isK IntKind.u8 v42 fun i44 => br (decide ((1 : Int) < i44)) (stC w43 { block := n0, off := (0 : Nat) : Addr } [Value.int IntKind.u16 (0 : Int), Value.bool false, Value.int IntKind.u16 (0 : Int), Value.int IntKind.u32 (0 : Int), Value.slice none (0 : Nat) (0 : Nat)] fun w45 => rd (cellsAt w45 { block := n0, off := (0 : Nat) : Addr } (5 : Nat)) fun l46 => R (Value.tuple #[Value.agg (List.toArray l46), Value.int IntKind.i64 (3 : Int)]) w45) (runs Tryd.prog (Instr.index (9 : Nat) (Value.string a) (Value.int IntKind.i64 (2 : Int))) w43 fun v47 w48 => isK IntKind.u8 v47 fun i49 => br (decide (i49 = (0 : Int))) (runs Tryd.prog (Instr.sliceAt (9 : Nat) (Value.string a) (some (Value.int IntKind.i64 (3 : Int))) (some (Value.int IntKind.i64 (9 : Int))) none) w48 fun v50 w51 => isStr v50 fun x52 => br (!decide (x52 = { data := #[(0 : UInt8), (0 : UInt8), (0 : UInt8), (0 : UInt8), (0 : UInt8), (0 : UInt8)] : ByteArray })) (stC w51 { block := n0, off := (0 : Nat) : Addr } [Value.int IntKind.u16 (0 : Int), Value.bool false, Value.int IntKind.u16 (0 : Int), Value.int IntKind.u32 (0 : Int), Value.slice none (0 : Nat) (0 : Nat)] fun w53 => rd (cellsAt w53 { block := n0, off := (0 : Nat) : Addr } (5 : Nat)) fun l54 => R (Value.tuple #[Value.agg (List.toArray l54), Value.int IntKind.i64 (3 : Int)]) w53) (u39 (alist []) w51)) (u39 (alist []) w48)))) fun u55 => ∀ (u56 : Nat → Value) (w57 : World), u55 (alist []) w57 → runs Tryd.prog (Instr.sliceAt (9 : Nat) (Value.string a) (some (Value.int IntKind.i64 (9 : Int))) (some (Value.int IntKind.i64 (IntKind.wrap IntKind.i64 ((↑(ByteArray.size a) : Int) - (2 : Int))))) none) w57 fun v59 w60 => isStr v59 fun x61 => callV Tryd.prog (31 : Nat) [Value.string x61] w60 fun v62 w63 => isTup v62 fun l64 => rd l64[(0 : Nat)]? fun v65 => isSl v65 fun o66 n67 n68 => isTup v62 fun l69 => rd l69[(1 : Nat)]? fun v70 => isK IntKind.i64 v70 fun i71 => br (!decide (i71 = (0 : Int))) (stC w63 { block := n0, off := (0 : Nat) : Addr } [Value.int IntKind.u16 (0 : Int), Value.bool false, Value.int IntKind.u16 (0 : Int), Value.int IntKind.u32 (0 : Int), Value.slice none (0 : Nat) (0 : Nat)] fun w72 => rd (cellsAt w72 { block := n0, off := (0 : Nat) : Addr } (5 : Nat)) fun l73 => R (Value.tuple #[Value.agg (List.toArray l73), Value.int IntKind.i64 i71]) w72) (heldC (World.drew w63) fun u74 => (∀ (w75 : World), u74 w75 → Value.string a = Value.string a ∧ w75 = w75) ∧ runs Tryd.prog (Instr.sliceAt (9 : Nat) (Value.string a) none (some (Value.int IntKind.i64 (2 : Int))) none) (World.drew w63) fun v77 w78 => (∀ (w79 : World), u74 w79 → runs Tryd.prog (Instr.sliceAt (9 : Nat) (Value.string a) none (some (Value.int IntKind.i64 (2 : Int))) none) w79 fun v81 w82 => v81 = v77 ∧ w82 = w79) ∧ isStr v77 fun x83 => (∀ (w84 : World), u74 w84 → Value.string a = Value.string a ∧ w84 = w84) ∧ runs Tryd.prog (Instr.index (9 : Nat) (Value.string a) (Value.int IntKind.i64 (2 : Int))) (World.drew w63) fun v86 w87 => (∀ (w88 : World), u74 w88 → runs Tryd.prog (Instr.index (9 : Nat) (Value.string a) (Value.int IntKind.i64 (2 : Int))) w88 fun v90 w91 => v90 = v86 ∧ w91 = w88) ∧ isK IntKind.u8 v86 fun i92 => (∀ (w93 : World), u74 w93 → Value.bool (decide (i92 = (1 : Int))) = Value.bool (decide (i92 = (1 : Int))) ∧ w93 = w93) ∧ (∀ (w95 : World), u74 w95 → Value.string a = Value.string a ∧ w95 = w95) ∧ runs Tryd.prog (Instr.sliceAt (9 : Nat) (Value.string a) (some (Value.int IntKind.i64 (3 : Int))) (some (Value.int IntKind.i64 (5 : Int))) none) (World.drew w63) fun v97 w98 => (∀ (w99 : World), u74 w99 → runs Tryd.prog (Instr.sliceAt (9 : Nat) (Value.string a) (some (Value.int IntKind.i64 (3 : Int))) (some (Value.int IntKind.i64 (5 : Int))) none) w99 fun v101 w102 => v101 = v97 ∧ w102 = w99) ∧ isStr v97 fun x103 => (∀ (w104 : World), u74 w104 → Value.string a = Value.string a ∧ w104 = w104) ∧ runs Tryd.prog (Instr.sliceAt (9 : Nat) (Value.string a) (some (Value.int IntKind.i64 (5 : Int))) (some (Value.int IntKind.i64 (9 : Int))) none) (World.drew w63) fun v106 w107 => (∀ (w108 : World), u74 w108 → runs Tryd.prog (Instr.sliceAt (9 : Nat) (Value.string a) (some (Value.int IntKind.i64 (5 : Int))) (some (Value.int IntKind.i64 (9 : Int))) none) w108 fun v110 w111 => v110 = v106 ∧ w111 = w108) ∧ isStr v106 fun x112 => (∀ (w113 : World), u74 w113 → Value.slice o66 n67 n68 = Value.slice o66 n67 n68 ∧ w113 = w113) ∧ callV Tryd.prog (32 : Nat) [Value.string x83] (World.drew w63) fun v115 w116 => isK IntKind.u32 v115 fun i117 => u74 w116 ∧ (∀ (w118 : World), u74 w118 → Value.int IntKind.u16 (IntKind.wrap IntKind.u16 i117) = Value.int IntKind.u16 (IntKind.wrap IntKind.u16 i117) ∧ w118 = w118) ∧ callV Tryd.prog (32 : Nat) [Value.string x103] w116 fun v120 w121 => isK IntKind.u32 v120 fun i122 => u74 w121 ∧ (∀ (w123 : World), u74 w123 → Value.int IntKind.u16 (IntKind.wrap IntKind.u16 i122) = Value.int IntKind.u16 (IntKind.wrap IntKind.u16 i122) ∧ w123 = w123) ∧ callV Tryd.prog (32 : Nat) [Value.string x112] w121 fun v125 w126 => isK IntKind.u32 v125 fun i127 => u74 w126 ∧ (∀ (w128 : World), u74 w128 → Value.agg #[Value.int IntKind.u16 (IntKind.wrap IntKind.u16 i117), Value.bool (decide (i92 = (1 : Int))), Value.int IntKind.u16 (IntKind.wrap IntKind.u16 i122), Value.int IntKind.u32 i127, Value.slice o66 n67 n68] = Value.agg #[Value.int IntKind.u16 (IntKind.wrap IntKind.u16 i117), Value.bool (decide (i92 = (1 : Int))), Value.int IntKind.u16 (IntKind.wrap IntKind.u16 i122), Value.int IntKind.u32 i127, Value.slice o66 n67 n68] ∧ w128 = w128) ∧ stC w126 { block := n0, off := (0 : Nat) : Addr } [Value.int IntKind.u16 (IntKind.wrap IntKind.u16 i117), Value.bool (decide (i92 = (1 : Int))), Value.int IntKind.u16 (IntKind.wrap IntKind.u16 i122), Value.int IntKind.u32 i127, Value.slice o66 n67 n68] fun w130 => u74 w130 ∧ (∀ (w131 : World), u74 w131 → Value.int IntKind.i64 (0 : Int) = Value.int IntKind.i64 (0 : Int) ∧ w131 = w131) ∧ rd (cellsAt w130 { block := n0, off := (0 : Nat) : Addr } (5 : Nat)) fun l133 => R (Value.tuple #[Value.agg (List.toArray l133), Value.int IntKind.i64 (0 : Int)]) w130)))) :
  callV Tryd.prog 13 [Value.string a] w R :=
  vc_of hm ⟨fun n => match n with | 8 => true | _ => false, fun n => match n with | 4 => .take 0 (.take 1 (.take 2 (.take 6 (.take 7 (.take 8 (.one 3 (.take 4 (.one 5 (.take 9 (.done)))))))))) | 11 => .take 0 (.take 1 (.take 4 (.take 5 (.take 6 (.take 7 (.take 8 (.take 11 (.take 12 (.take 14 (.one 2 (.take 3 (.one 9 (.take 10 (.one 13 (.take 15 (.one 16 (.take 17 (.done)))))))))))))))))) | _ => .done, fun n => match n with | 8 => [] | _ => []⟩ Tryd.func13 ent13 (by kernel_rfl) h

end Go.Proofs.YtipikchkbmgloaaDoor
namespace Go.Proofs.YtipikchkbmgloaaDoor
set_option linter.unusedSimpArgs false
set_option linter.unusedVariables false
open Go Go.RowKit VC
variable {w : World}
structure Dg where
  seq : Nat
  any : Bool
  last : Nat
  bits : Nat
  list : List Msg
structure Dok (d : Dg) : Prop where
  seq : d.seq < 65536
  last : d.last < 65536
  bits : d.bits < 4294967296
def flagB (b : Bool) : List Int := [if b then 1 else 0]
def headB (d : Dg) : List Int := beB d.seq 2 ++ flagB d.any ++ beB d.last 2 ++ beB d.bits 4
theorem headB_length (d : Dg) : (headB d).length = 9 := by simp [headB, flagB, beB_length]
theorem flagB_be (b : Bool) : beB (if b then 1 else 0) 1 = flagB b := by cases b <;> rfl
theorem headB_r (d : Dg) : ∀ y ∈ headB d, 0 ≤ y ∧ y < 256 := by
  intro y hy
  simp only [headB, List.mem_append] at hy
  rcases hy with ((hy | hy) | hy) | hy
  · exact beB_r _ _ y hy
  · simp only [flagB, List.mem_singleton] at hy; subst hy; split <;> omega
  · exact beB_r _ _ y hy
  · exact beB_r _ _ y hy
def sealB (x : List Int) : List Int := x ++ beB (crcF 65535 x) 2
def encD (d : Dg) : List Int × Int :=
  if d.any = false ∧ (d.last ≠ 0 ∨ d.bits ≠ 0) then ([], 1)
  else if (encodeM d.list).2 ≠ 0 then ([], (encodeM d.list).2)
  else if 1024 < (sealB (headB d ++ (encodeM d.list).1)).length then ([], 5)
  else (sealB (headB d ++ (encodeM d.list).1), 0)
theorem sealB_length (x : List Int) : (sealB x).length = x.length + 2 := by simp [sealB, beB_length]
def dgC (d : Dg) (p : Option Addr) (c : Nat) : Value := .agg #[.int .u16 d.seq, .bool d.any, .int .u16 d.last, .int .u32 d.bits, .slice p d.list.length c]
def Grow (w0 w : World) (p : Option Addr) (c : Nat) (ys : List Int) : Prop :=
  w.ownsRow w0.heap.size 5 1 (.slice p ys.length c) ys.length (ys.map (Value.int .u8)) ∧ Fm none' w0 w
theorem Grow.nil (w0 : World) : Grow w0 w0 none 0 [] := ⟨World.ownsRow_nil _ _ _ _, Fm.refl _ _⟩
theorem Grow.put {w0 : World} {p : Option Addr} {c n m : Nat} {ys : List Int} (h : Grow w0 w p c ys) (hn : n < 4294967296) (hm : m ≤ 4) (hl : ys.length ≤ 1000000) :
    callV Tryd.prog 23 [.slice p ys.length c, .int .u32 n, .int .i64 m] w fun v w' => ∃ p' c', v = .slice p' (ys ++ beB n m).length c' ∧ Grow w0 w' p' c' (ys ++ beB n m) := by
  refine (put23_c hn hm h.1 h.2.size hl).mono ?_
  rintro _ w1 ⟨p', c', rfl, ho, -, hf⟩
  exact ⟨p', c', rfl, ho, h.2.trans' hf fun i hi e => by have := (own_block h.1 e).1; omega⟩
set_option maxRecDepth 20000 in
set_option maxHeartbeats 1000000 in
theorem encode10_c {d : Dg} {p : Option Addr} {c N : Nat} (hH : Halves w) (hd : Dok d) (hm : MsgsAt w N p d.list) (hN : N ≤ w.heap.size) (hok : Msok d.list) :
    callV Tryd.prog 10 [dgC d p c] w fun v w' => ∃ q e, v = .tuple #[.slice q (encD d).1.length e, .int .i64 (encD d).2] ∧ w'.ownsRow w.heap.size 5 1 (.slice q (encD d).1.length e) (encD d).1.length ((encD d).1.map (Value.int .u8)) ∧ Fm none' w w' := by
  obtain ⟨hs, hl, hb⟩ := hd
  have hnil : ∀ (e : Int) (w' : World), encD d = ([], e) → Fm none' w w' → ∃ q f, (.tuple #[.slice none 0 0, .int .i64 e] : Value) = .tuple #[.slice q (encD d).1.length f, .int .i64 (encD d).2] ∧ w'.ownsRow w.heap.size 5 1 (.slice q (encD d).1.length f) (encD d).1.length ((encD d).1.map (Value.int .u8)) ∧ Fm none' w w' := by
    intro e w' he hf
    rw [he]
    exact ⟨none, 0, rfl, World.ownsRow_nil _ _ _ _, hf⟩
  refine vc10 d.seq d.any d.last d.bits p d.list.length c w _ ?_
  refine allocC_of fun w1 hb1 hs1 hf1 => ?_
  refine ⟨fun _ w' => w' = w1 ∧ ¬ (d.any = false ∧ (d.last ≠ 0 ∨ d.bits ≠ 0)), ?_, ?_⟩
  · have c1 : w1.cell? ⟨w.heap.size, 1, none⟩ = some (.bool d.any) := cellOf hb1 rfl
    have c2 : w1.cell? ⟨w.heap.size, 2, none⟩ = some (.int .u16 d.last) := cellOf hb1 rfl
    have c3 : w1.cell? ⟨w.heap.size, 3, none⟩ = some (.int .u32 d.bits) := cellOf hb1 rfl
    simp only [c1, c2, c3, vcs, eqV, nilV, Option.map_some, Nat.mul_one, implies_true, true_and, and_true, and_self]
    cases ha : d.any with
    | true => exact fun h => by cases h.1
    | false =>
      refine br_dec (fun h => ?_) (fun h => ?_)
      · exact hnil 1 w1 (by unfold encD; rw [if_pos ⟨ha, .inl (by omega)⟩]) hf1
      · refine br_dec (fun h' => ?_) (fun h' => ?_)
        · exact hnil 1 w1 (by unfold encD; rw [if_pos ⟨ha, .inr (by omega)⟩]) hf1
        · exact fun h => by rcases h.2 with e | e <;> omega
  rintro u w11 ⟨rfl, hgo⟩
  have c4 : w11.cell? ⟨w.heap.size, 4, none⟩ = some (.slice p d.list.length c) := cellOf hb1 rfl
  simp only [c4, vcs, eqV, nilV, Option.map_some, Nat.mul_one, implies_true, true_and, and_true, and_self]
  refine (encode14_c (hm.keep hf1 fun _ _ => id) (by have := hf1.size; omega) hok).mono ?_
  rintro _ w18 ⟨sv, rfl, hown, hf18⟩
  obtain ⟨pb, cb, rfl, -⟩ := own_read hown
  simp only [vcs, eqV, nilV, Option.map_some, Nat.mul_one, implies_true, true_and, and_true, and_self, List.getElem?_toArray, List.getElem?_cons_zero, List.getElem?_cons_succ]
  have hF18 := hf1.trans hf18
  refine br_ndec (fun he => ?_) (fun he => ?_)
  · exact hnil _ w18 (by unfold encD; rw [if_neg hgo, if_pos he]) hF18
  have hbox : w18.drew.heap[w.heap.size]? = some (.cells #[.int .u16 d.seq, .bool d.any, .int .u16 d.last, .int .u32 d.bits, .slice p d.list.length c] 32 (0, 0)) := hf18.keep hb1 id
  refine ⟨fun w' => w'.heap[w.heap.size]? = some (.cells #[.int .u16 d.seq, .bool d.any, .int .u16 d.last, .int .u32 d.bits, .slice p d.list.length c] 32 (0, 0)), hbox, ?_⟩
  refine rd_of (v := .int .u16 d.seq) (cellOf hbox rfl) ⟨fun w' hw => rd_of (v := .int .u16 d.seq) (cellOf hw rfl) rfl, ?_⟩
  simp only [vcs, eqV, nilV, Option.map_some, Nat.mul_one, implies_true, true_and, and_true, and_self]
  refine rd_of (v := .bool d.any) (cellOf hbox rfl) ⟨fun w' hw => rd_of (v := .bool d.any) (cellOf hw rfl) rfl, ?_⟩
  simp only [vcs, eqV, nilV, Option.map_some, Nat.mul_one, implies_true, true_and, and_true, and_self]
  refine rd_of (v := .int .u16 d.last) (cellOf hbox rfl) ⟨fun w' hw => rd_of (v := .int .u16 d.last) (cellOf hw rfl) rfl, ?_⟩
  simp only [vcs, eqV, nilV, Option.map_some, Nat.mul_one, implies_true, true_and, and_true, and_self]
  refine rd_of (v := .int .u32 d.bits) (cellOf hbox rfl) ⟨fun w' hw => rd_of (v := .int .u32 d.bits) (cellOf hw rfl) rfl, ?_⟩
  simp only [vcs, eqV, nilV, Option.map_some, Nat.mul_one, implies_true, true_and, and_true, and_self]
  rw [show IntKind.u32.wrap (d.seq : Int) = (d.seq : Int) from w32 (by omega), show IntKind.u32.wrap (d.last : Int) = (d.last : Int) from w32 (by omega)]
  refine ((Grow.nil w18.drew).put (n := d.seq) (m := 2) (by omega) (by omega) (by simp)).mono ?_
  rintro _ w61 ⟨p1, c1, rfl, g1⟩
  simp only [vcs, eqV, nilV, Option.map_some, Nat.mul_one, implies_true, true_and, and_true, and_self, List.nil_append] at g1 ⊢
  refine ⟨g1.2.keep hbox id, (flag24_c d.any).mono ?_⟩
  rintro _ _ ⟨rfl, rfl⟩
  simp only [vcs, eqV, nilV, Option.map_some, Nat.mul_one, implies_true, true_and, and_true, and_self]
  refine ⟨g1.2.keep hbox id, ?_⟩
  have ef : (if d.any = true then (1 : Int) else 0) = (((if d.any then 1 else 0 : Nat)) : Int) := by split <;> rfl
  rw [ef]
  refine (g1.put (n := if d.any then 1 else 0) (m := 1) (by split <;> omega) (by omega) (by rw [beB_length]; omega)).mono ?_
  rintro _ w69 ⟨p2, c2, rfl, g2⟩
  rw [flagB_be] at g2 ⊢
  simp only [vcs, eqV, nilV, Option.map_some, Nat.mul_one, implies_true, true_and, and_true, and_self]
  refine ⟨g2.2.keep hbox id, ?_⟩
  refine (g2.put (n := d.last) (m := 2) (by omega) (by omega) (by simp [beB_length, flagB])).mono ?_
  rintro _ w74 ⟨p3, c3, rfl, g3⟩
  simp only [vcs, eqV, nilV, Option.map_some, Nat.mul_one, implies_true, true_and, and_true, and_self]
  refine ⟨g3.2.keep hbox id, ?_⟩
  refine (g3.put (n := d.bits) (m := 4) (by omega) (by omega) (by simp [beB_length, flagB])).mono ?_
  rintro _ w79 ⟨p4, c4, rfl, g4⟩
  simp only [vcs, eqV, nilV, Option.map_some, Nat.mul_one, implies_true, true_and, and_true, and_self]
  refine ⟨g4.2.keep hbox id, ?_⟩
  have he0 : (encodeM d.list).2 = 0 := he
  have hel : (encodeM d.list).1.length ≤ 1024 := by
    obtain ⟨-, -, h3, h4⟩ := enc_ok hok he0
    rw [h4]; exact h3
  have her := enc_range d.list
  obtain ⟨hd', hhd⟩ : ∃ h, h = headB d := ⟨_, rfl⟩
  have hhl : hd'.length = 9 := by rw [hhd]; exact headB_length d
  have hg4 : Grow w18.drew w79 p4 c4 hd' := by rw [hhd]; exact g4
  rw [show beB d.seq 2 ++ flagB d.any ++ beB d.last 2 ++ beB d.bits 4 = hd' by rw [hhd]; rfl]
  have hbytes : BytesAt w79 pb (encodeM d.list).1 := (BytesAt.of_own hown).keep (w := w18.drew) hg4.2 fun _ _ => id
  have hs18 : w18.drew.heap.size = w18.heap.size := rfl
  refine append_b (by rw [row25]) row5 rfl hg4.1 rfl (fun j y hj => hbytes j y hj) hg4.2.size (by simp only [maxLen]; omega) (by omega) fun v86 w86 ho86 hf86 hblk86 => ?_
  obtain ⟨p86, c86, rfl, -⟩ := own_read ho86
  simp only [vcs, eqV, nilV, Option.map_some, Nat.mul_one, implies_true, true_and, and_true, and_self]
  obtain ⟨x, hx⟩ : ∃ x, x = hd' ++ (encodeM d.list).1 := ⟨_, rfl⟩
  have hxl : x.length = hd'.length + (encodeM d.list).1.length := by rw [hx, List.length_append]
  have hxr : ∀ y ∈ x, 0 ≤ y ∧ y < 256 := by
    intro y hy
    rw [hx, List.mem_append] at hy
    exact hy.elim (fun h => headB_r d y (hhd ▸ h)) (her y)
  rw [← List.map_append, ← hx, ← hxl] at ho86
  rw [← hxl]
  have hg86 : Grow w18.drew w86 p86 c86 x := ⟨ho86, hg4.2.trans' hf86 fun i hi e => by have := (own_block hg4.1 e).1; omega⟩
  have hH86 : Halves w86 := ((hH.keep hF18 id).keep (w := w18.drew) hg86.2 id)
  refine (sum25_c hH86 (BytesAt.of_own ho86) hxr (by omega)).mono ?_
  rintro _ _ ⟨rfl, rfl⟩
  simp only [vcs, eqV, nilV, Option.map_some, Nat.mul_one, implies_true, true_and, and_true, and_self]
  have hcl := crcF_lt x 65535 (by omega) hxr
  rw [show IntKind.u32.wrap ((crcF 65535 x : Nat) : Int) = ((crcF 65535 x : Nat) : Int) from w32 (by omega)]
  refine (hg86.put (n := crcF 65535 x) (m := 2) (by omega) (by omega) (by omega)).mono ?_
  rintro _ w94 ⟨p5, c5, rfl, g5⟩
  simp only [vcs, eqV, nilV, Option.map_some, Nat.mul_one, implies_true, true_and, and_true, and_self]
  have hF94 : Fm none' w w94 := (hF18.trans (Fm.drew w18)).trans g5.2
  have hsl : sealB x = x ++ beB (crcF 65535 x) 2 := rfl
  have hen : encD d = if 1024 < (sealB x).length then ([], 5) else (sealB x, 0) := by
    unfold encD
    rw [if_neg hgo, if_neg (by simpa using he0), ← hhd, ← hx]
  refine br_dec (fun h => ?_) (fun h => ?_)
  · exact hnil 5 w94 (by rw [hen, if_pos (by rw [hsl]; omega)]) hF94
  · rw [hen, if_neg (by rw [hsl]; omega)]
    exact ⟨p5, c5, rfl, own_down g5.1 (by have := hF18.size; omega), hF94⟩
end Go.Proofs.YtipikchkbmgloaaDoor
namespace Go.Proofs.YtipikchkbmgloaaDoor
set_option linter.unusedSimpArgs false
set_option linter.unusedVariables false
open Go Go.RowKit VC
def dgZ : Dg := ⟨0, false, 0, 0, []⟩
def bodyB (ys : List Int) : List Int := ys.take (ys.length - 2)
def numsD (ys : List Int) : Dg := ⟨valB (ys.take 2), decide (ys.getD 2 0 = 1), valB ((ys.take 5).drop 3), valB ((ys.take 9).drop 5), []⟩
def decD (ys : List Int) : Dg × Int :=
  if ys.length < 11 then (dgZ, 2)
  else if valB (ys.drop (ys.length - 2)) ≠ crcF 65535 (bodyB ys) then (dgZ, 4)
  else if 1024 < ys.length ∨ 1 < ys.getD 2 0 ∨ ((numsD ys).any = false ∧ ((numsD ys).last ≠ 0 ∨ (numsD ys).bits ≠ 0)) then (dgZ, 3)
  else if (decodeM ((bodyB ys).drop 9)).2 ≠ 0 then (dgZ, (decodeM ((bodyB ys).drop 9)).2)
  else ({ numsD ys with list := (decodeM ((bodyB ys).drop 9)).1 }, 0)
theorem valB_2 {n : Nat} (h : n < 65536) : valB (beB n 2) = n := by
  rw [beB_2]; simp [valB]; omega
theorem valB_4 {n : Nat} (h : n < 4294967296) : valB (beB n 4) = n := by
  simp [beB, List.range_succ, valB]; omega
theorem beB_val2 {ys : List Int} (hl : ys.length = 2) (hy : ∀ y ∈ ys, 0 ≤ y ∧ y < 256) : beB (valB ys) 2 = ys := by
  match ys, hl with
  | [a, b], _ =>
    have ha := hy a (by simp)
    have hb := hy b (by simp)
    rw [beB_2]
    simp [valB]
    omega
end Go.Proofs.YtipikchkbmgloaaDoor
namespace Go.Proofs.YtipikchkbmgloaaDoor
set_option linter.unusedSimpArgs false
set_option linter.unusedVariables false
open Go Go.RowKit VC
variable {w : World}
theorem sliceAt_lh {P : Program} {w : World} {t e : TypeId} {k : K} {b : Nat} {z : Value} {a : Option Addr} {n c : Nat} {kl kh : IntKind} {l h : Int} {KK : Value → World → Prop} (ht : (row P t).k = .slice e) (he : row P e = ⟨k, 1, b, some z⟩) (h0 : 0 ≤ l) (h1 : l ≤ h) (h2 : h ≤ c)
    (kk : KK (.slice (if c = l.toNat then a else a.map (·.add l.toNat)) (h.toNat - l.toNat) (c - l.toNat)) w) : runs P (Instr.sliceAt t (.slice a n c) (some (.int kl l)) (some (.int kh h)) none) w KK := by
  obtain ⟨hu, h3⟩ := elem_of_row ht
  obtain ⟨i, hi, hz, hsz, hbt⟩ := info_of_row he
  refine ⟨_, _, ?_, kk⟩
  rw [run_sliceAt_slice _ _ _ _ _ _ hu, run_slice_lh _ _ _ _ _ hu _ _ _ _ h0 h1 h2, h3, run_size hi, hsz]
  simp [Result.andThen, sliced]
theorem OwnMsgs.base {base b : Nat} {sv : Value} {ms : List Msg} (h : OwnMsgs w base sv ms) (hb : b ≤ base) : OwnMsgs w b sv ms := by
  obtain ⟨qs, h1, h2, h3⟩ := h
  exact ⟨qs, h1, own_base h2 hb, fun j m q hj hq => own_base (h3 j m q hj hq) hb⟩
theorem bytes_sub {p : Option Addr} {ys : List Int} (h : BytesAt w p ys) {lo hi cap : Nat} (hlh : lo ≤ hi) (hc : hi ≤ cap) : BytesAt w (if cap = lo then p else p.map (·.add lo)) ((ys.take hi).drop lo) := by
  intro j y hj
  have hjl := (List.getElem?_eq_some_iff.1 hj).1
  rw [List.length_drop, List.length_take] at hjl
  rw [List.getElem?_drop, List.getElem?_take_of_lt (by omega)] at hj
  obtain ⟨ad, rfl, hcl⟩ := h _ y hj
  rw [if_neg (by omega)]
  refine ⟨ad.add lo, rfl, ?_⟩
  rw [add_add]
  exact hcl
def DecR (w0 : World) (r : Dg × Int) (v : Value) (w' : World) : Prop :=
  ∃ q c, v = .tuple #[dgC r.1 q c, .int .i64 r.2] ∧ OwnMsgs w' w0.heap.size (.slice q r.1.list.length c) r.1.list ∧ Fm none' w0 w'
set_option maxRecDepth 20000 in
set_option maxHeartbeats 2000000 in
theorem decode12_c {ys : List Int} {p : Option Addr} {c : Nat} (hH : Halves w) (hb : BytesAt w p ys) (hy : ∀ y ∈ ys, 0 ≤ y ∧ y < 256) (hl : ys.length ≤ 1000000) (hnc : ys.length ≤ c) :
    callV Tryd.prog 12 [.slice p ys.length c] w (DecR w (decD ys)) := by
  refine vc12 p ys.length c w _ ?_
  refine allocC_of fun w1 hb1 hs1 hf1 => ?_
  have fail : ∀ (e : Int) (w' : World), decD ys = (dgZ, e) → Fm none' w w' → (∃ C, C.size = 5 ∧ w'.heap[w.heap.size]? = some (.cells C 32 (0, 0))) →
      stC w' ⟨w.heap.size, 0, none⟩ [.int .u16 0, .bool false, .int .u16 0, .int .u32 0, .slice none 0 0] fun w2 => rd (cellsAt w2 ⟨w.heap.size, 0, none⟩ 5) fun l => DecR w (decD ys) (.tuple #[.agg l.toArray, .int .i64 e]) w2 := by
    rintro e w' he hf ⟨C, hC, hbx⟩
    refine stC_all hbx (by rw [hC]; rfl) (fun v hv => by simp at hv; rcases hv with rfl | rfl | rfl | rfl | rfl <;> rfl) fun w2 hb2 hf2 => ?_
    refine rd_of (cells_all hb2 rfl) ?_
    rw [he]
    exact ⟨none, 0, rfl, ⟨[], rfl, World.ownsRow_nil _ _ _ _, fun j m q h => by simp [dgZ] at h⟩, hf.trans' hf2 fun i hi e => by omega⟩
  refine br_dec (fun h11 => ?_) (fun h11 => ?_)
  · exact fail 2 w1 (by unfold decD; rw [if_pos (by omega)]) hf1 ⟨_, rfl, hb1⟩
  obtain ⟨k, hk⟩ : ∃ k, k = ys.length - 2 := ⟨_, rfl⟩
  rw [show IntKind.i64.wrap ((ys.length : Int) - 2) = (k : Int) from (w64 (by omega)).trans (by omega)]
  refine ⟨fun _ => True, trivial, ?_⟩
  simp only [vcs, eqV, nilV, Option.map_some, Nat.mul_one, implies_true, true_and, and_true, and_self]
  refine sliceAt_hi (by rw [row25]) row5 (by omega) (by omega) ⟨fun w' _ => sliceAt_hi (by rw [row25]) row5 (by omega) (by omega) ⟨rfl, rfl⟩, ?_⟩
  simp only [vcs, eqV, nilV, Option.map_some, Nat.mul_one, implies_true, true_and, and_true, and_self, Int.toNat_natCast]
  refine sliceAt_lo (by rw [row25]) row5 (by omega) (by omega) ⟨fun w' _ => sliceAt_lo (by rw [row25]) row5 (by omega) (by omega) ⟨rfl, rfl⟩, ?_⟩
  simp only [vcs, eqV, nilV, Option.map_some, Nat.mul_one, implies_true, true_and, and_true, and_self, Int.toNat_natCast]
  have hf1d := hf1.trans (Fm.drew w1)
  have hbd := hb.keep hf1d fun _ _ => id
  have hsumB : BytesAt w1.drew (if c = k then p else p.map (·.add k)) (ys.drop k) := by
    have := bytes_sub hbd (lo := k) (hi := ys.length) (cap := c) (by omega) hnc
    rwa [List.take_of_length_le (Nat.le_refl _)] at this
  have hsl : (ys.drop k).length = ys.length - k := List.length_drop
  rw [← hsl]
  refine (get29_c hsumB (fun y h => hy y (List.mem_of_mem_drop h)) (by omega)).mono ?_
  rintro _ w44 ⟨rfl, rfl⟩
  simp only [vcs, eqV, nilV, Option.map_some, Nat.mul_one, implies_true, true_and, and_true, and_self]
  have hbody : bodyB ys = ys.take k := by unfold bodyB; rw [hk]
  have hbl : (ys.take k).length = k := by rw [List.length_take]; omega
  have hbodyB : BytesAt w1.drew (if c = 0 then p else p.map (·.add 0)) (ys.take k) := (hbd.take k).zero c
  have hHd : Halves w1.drew := hH.keep hf1d id
  have hbr : ∀ y ∈ ys.take k, 0 ≤ y ∧ y < 256 := fun y h => hy y (List.mem_of_mem_take h)
  refine callV.mono (R := fun v w' => v = .int .u16 (crcF 65535 (ys.take k) : Nat) ∧ w' = w1.drew) (by
    have := sum25_c (c := c) hHd hbodyB hbr (by omega)
    rwa [hbl] at this) ?_
  rintro _ _ ⟨rfl, rfl⟩
  simp only [vcs, eqV, nilV, Option.map_some, Nat.mul_one, implies_true, true_and, and_true, and_self]
  have hcl := crcF_lt (ys.take k) 65535 (by omega) hbr
  rw [show IntKind.u32.wrap ((crcF 65535 (ys.take k) : Nat) : Int) = ((crcF 65535 (ys.take k) : Nat) : Int) from w32 (by omega)]
  have hbxd : w1.drew.heap[w.heap.size]? = some (.cells #[.int .u16 0, .bool false, .int .u16 0, .int .u32 0, .slice none 0 0] 32 (0, 0)) := hb1
  refine br_ndec (fun hne => ?_) (fun heq => ?_)
  · exact fail 4 w1.drew (by unfold decD; rw [if_neg (by omega), if_pos (by rw [hbody, ← hk]; omega)]) hf1d ⟨_, rfl, hbxd⟩
  have hsum : valB (ys.drop k) = crcF 65535 (ys.take k) := by omega
  obtain ⟨y2, hy2⟩ : ∃ y, ys[2]? = some y := ⟨ys[2]'(by omega), by simp⟩
  obtain ⟨ad, rfl, hc2⟩ := hbd 2 y2 hy2
  have hy2r := hy y2 (List.mem_of_getElem? hy2)
  obtain ⟨W0, hW0⟩ : ∃ W0, W0 = w1.drew.drew := ⟨_, rfl⟩
  have hf0 : Fm none' w W0 := hW0 ▸ hf1d.trans (Fm.drew _)
  have hb0 : BytesAt W0 (some ad) ys := hb.keep hf0 fun _ _ => id
  have hbx0 : W0.heap[w.heap.size]? = some (.cells #[.int .u16 0, .bool false, .int .u16 0, .int .u32 0, .slice none 0 0] 32 (0, 0)) := hW0 ▸ hb1
  rw [← hW0]
  refine ⟨fun u w' => ∃ b, u 6 = .pointer (some ⟨b, 0, none⟩) ∧ w.heap.size < b ∧ Fm none' W0 w' ∧ w'.heap[b]? = some (.cells #[.int .u16 (numsD ys).seq, .bool (numsD ys).any, .int .u16 (numsD ys).last, .int .u32 (numsD ys).bits, .slice none 0 0] 32 (0, 0)), ?_, ?_⟩
  · refine ⟨fun w' => Fm none' W0 w', Fm.refl _ _, ?_⟩
    simp only [vcs, eqV, nilV, Option.map_some, Nat.mul_one, implies_true, true_and, and_true, and_self]
    refine sliceAt_hi (by rw [row25]) row5 (by omega) (by omega) ⟨fun w' _ => sliceAt_hi (by rw [row25]) row5 (by omega) (by omega) ⟨rfl, rfl⟩, ?_⟩
    simp only [vcs, eqV, nilV, Option.map_some, Nat.mul_one, implies_true, true_and, and_true, and_self]
    refine ⟨by omega, fun w' _ => by omega, ?_⟩
    have hc20 : W0.cell? (ad.add 2) = some (.int .u8 y2) := by
      obtain ⟨_, e, h⟩ := hb0 2 y2 hy2
      cases e; exact h
    have hc2' : ∀ w', Fm none' W0 w' → w'.cell? (ad.add 2) = some (.int .u8 y2) := fun w' h => h.cell hc20 id
    refine rd_of hc20 ⟨fun w' h => rd_of (hc2' w' h) rfl, ?_⟩
    simp only [vcs, eqV, nilV, Option.map_some, Nat.mul_one, implies_true, true_and, and_true, and_self]
    refine sliceAt_lh (by rw [row25]) row5 (by omega) (by omega) (by omega) ⟨fun w' _ => sliceAt_lh (by rw [row25]) row5 (by omega) (by omega) (by omega) ⟨rfl, rfl⟩, ?_⟩
    simp only [vcs, eqV, nilV, Option.map_some, Nat.mul_one, implies_true, true_and, and_true, and_self]
    refine sliceAt_lh (by rw [row25]) row5 (by omega) (by omega) (by omega) ⟨fun w' _ => sliceAt_lh (by rw [row25]) row5 (by omega) (by omega) (by omega) ⟨rfl, rfl⟩, ?_⟩
    simp only [vcs, eqV, nilV, Option.map_some, Nat.mul_one, implies_true, true_and, and_true, and_self]
    have g1 : ∀ W', Fm none' W0 W' → callV Tryd.prog 29 [.slice (if c = 0 then some ad else some (ad.add 0)) (Int.toNat 2) c] W' fun v w' => v = .int .u32 (valB (ys.take 2) : Nat) ∧ w' = W' := by
      intro W' h
      have hl2 : (ys.take 2).length = 2 := by rw [List.length_take]; omega
      have := get29_c (c := c) (((hb0.keep h fun _ _ => id).take 2).zero c) (fun y h => hy y (List.mem_of_mem_take h)) (by omega)
      rw [hl2] at this
      exact this
    have g2 : ∀ W', Fm none' W0 W' → callV Tryd.prog 29 [.slice (if c = Int.toNat 3 then some ad else some (ad.add (Int.toNat 3))) (Int.toNat 5 - Int.toNat 3) (c - Int.toNat 3)] W' fun v w' => v = .int .u32 (valB ((ys.take 5).drop 3) : Nat) ∧ w' = W' := by
      intro W' h
      have hl2 : ((ys.take 5).drop 3).length = 2 := by rw [List.length_drop, List.length_take]; omega
      have := get29_c (c := c - 3) (bytes_sub (lo := 3) (hi := 5) (cap := c) (hb0.keep h fun _ _ => id) (by omega) (by omega)) (fun y h => hy y (List.mem_of_mem_take (List.mem_of_mem_drop h))) (by omega)
      rw [hl2] at this
      exact this
    have g3 : ∀ W', Fm none' W0 W' → callV Tryd.prog 29 [.slice (if c = Int.toNat 5 then some ad else some (ad.add (Int.toNat 5))) (Int.toNat 9 - Int.toNat 5) (c - Int.toNat 5)] W' fun v w' => v = .int .u32 (valB ((ys.take 9).drop 5) : Nat) ∧ w' = W' := by
      intro W' h
      have hl2 : ((ys.take 9).drop 5).length = 4 := by rw [List.length_drop, List.length_take]; omega
      have := get29_c (c := c - 5) (bytes_sub (lo := 5) (hi := 9) (cap := c) (hb0.keep h fun _ _ => id) (by omega) (by omega)) (fun y h => hy y (List.mem_of_mem_take (List.mem_of_mem_drop h))) (by omega)
      rw [hl2] at this
      exact this
    have hv1 := valB_lt 2 (ys.take 2) (by rw [List.length_take]; omega) fun y h => hy y (List.mem_of_mem_take h)
    have hv2 := valB_lt 2 ((ys.take 5).drop 3) (by rw [List.length_drop, List.length_take]; omega) fun y h => hy y (List.mem_of_mem_take (List.mem_of_mem_drop h))
    have hnd : numsD ys = ⟨valB (ys.take 2), decide (y2 = 1), valB ((ys.take 5).drop 3), valB ((ys.take 9).drop 5), []⟩ := by
      unfold numsD
      rw [List.getD_eq_getElem?_getD, hy2]; rfl
    rw [hnd]
    generalize valB (ys.take 2) = a1 at g1 hv1 ⊢
    generalize valB ((ys.take 5).drop 3) = a2 at g2 hv2 ⊢
    generalize valB ((ys.take 9).drop 5) = a3 at g3 ⊢
    have e1 : IntKind.u16.wrap (a1 : Int) = a1 := w16 (by omega)
    have e2 : IntKind.u16.wrap (a2 : Int) = a2 := w16 (by omega)
    have fin : ∀ (b : Nat) W1, W1.heap[b]? = some (.cells #[.int .u16 0, .bool false, .int .u16 0, .int .u32 0, .slice none 0 0] 32 (0, 0)) → W0.heap.size ≤ b → Fm none' W0 W1 →
        stC W1 ⟨b, 0, none⟩ [.int .u16 a1, .bool (decide (y2 = 1)), .int .u16 a2, .int .u32 a3, .slice none 0 0] fun w' => ∃ b', alist [(6, .pointer (some ⟨b, 0, none⟩))] 6 = .pointer (some ⟨b', 0, none⟩) ∧ w.heap.size < b' ∧ Fm none' W0 w' ∧
          w'.heap[b']? = some (.cells #[.int .u16 a1, .bool (decide (y2 = 1)), .int .u16 a2, .int .u32 a3, .slice none 0 0] 32 (0, 0)) := by
      intro b W1 hbl hge hF1
      refine stC_all hbl rfl (fun v hv => by simp at hv; rcases hv with rfl | rfl | rfl | rfl | rfl <;> rfl) fun w2 hb2 hf2 => ?_
      have := lt_of_blk hbx0
      exact ⟨b, rfl, by omega, hF1.trans' hf2 fun i hi e => by omega, hb2⟩
    have al : ∀ (W' : World) (K : Nat → World → Prop), Fm none' W0 W' → (∀ b W1, W1.heap[b]? = some (.cells #[.int .u16 0, .bool false, .int .u16 0, .int .u32 0, .slice none 0 0] 32 (0, 0)) → W0.heap.size ≤ b → Fm none' W0 W1 → Fm none' W0 W1 ∧ K b W1) →
        allocC W' (.cells #[.int .u16 0, .bool false, .int .u16 0, .int .u32 0, .slice none 0 0] 32 (0, 0)) fun b W1 => Fm none' W0 W1 ∧ K b W1 := by
      intro W' K hF k
      refine allocC_of fun W1 h1 _ h3 => ?_
      exact k _ W1 h1 hF.size (hF.trans h3)
    refine ⟨(g1 _ (Fm.refl _ _)).mono ?_, al _ _ (Fm.refl _ _) fun b W1 hb hg hF => ⟨hF, (g1 _ hF).mono ?_⟩⟩
    · rintro _ _ ⟨rfl, rfl⟩
      simp only [vcs, eqV, nilV, Option.map_some, Nat.mul_one, implies_true, true_and, and_true, and_self, e1]
      refine ⟨Fm.refl _ _, (g2 _ (Fm.refl _ _)).mono ?_, al _ _ (Fm.refl _ _) fun b W1 hb hg hF => ⟨hF, (g2 _ hF).mono ?_⟩⟩
      · rintro _ _ ⟨rfl, rfl⟩
        simp only [vcs, eqV, nilV, Option.map_some, Nat.mul_one, implies_true, true_and, and_true, and_self, e2]
        refine ⟨Fm.refl _ _, (g3 _ (Fm.refl _ _)).mono ?_, al _ _ (Fm.refl _ _) fun b W1 hb hg hF => ⟨hF, (g3 _ hF).mono ?_⟩⟩
        · rintro _ _ ⟨rfl, rfl⟩
          simp only [vcs, eqV, nilV, Option.map_some, Nat.mul_one, implies_true, true_and, and_true, and_self]
          exact ⟨Fm.refl _ _, al _ _ (Fm.refl _ _) fun b W1 hb hg hF => ⟨hF, fin b W1 hb hg hF⟩⟩
        · rintro _ _ ⟨rfl, rfl⟩
          simp only [vcs, eqV, nilV, Option.map_some, Nat.mul_one, implies_true, true_and, and_true, and_self]
          exact ⟨hF, fin b _ hb hg hF⟩
      · rintro _ _ ⟨rfl, rfl⟩
        simp only [vcs, eqV, nilV, Option.map_some, Nat.mul_one, implies_true, true_and, and_true, and_self, e2]
        refine ⟨hF, (g3 _ hF).mono ?_⟩
        rintro _ _ ⟨rfl, rfl⟩
        simp only [vcs, eqV, nilV, Option.map_some, Nat.mul_one, implies_true, true_and, and_true, and_self]
        exact ⟨hF, fin b _ hb hg hF⟩
    · rintro _ _ ⟨rfl, rfl⟩
      simp only [vcs, eqV, nilV, Option.map_some, Nat.mul_one, implies_true, true_and, and_true, and_self, e1]
      refine ⟨hF, (g2 _ hF).mono ?_⟩
      rintro _ _ ⟨rfl, rfl⟩
      simp only [vcs, eqV, nilV, Option.map_some, Nat.mul_one, implies_true, true_and, and_true, and_self, e2]
      refine ⟨hF, (g3 _ hF).mono ?_⟩
      rintro _ _ ⟨rfl, rfl⟩
      simp only [vcs, eqV, nilV, Option.map_some, Nat.mul_one, implies_true, true_and, and_true, and_self]
      exact ⟨hF, fin b _ hb hg hF⟩
  rintro u W2 ⟨b2, h6, hlt2, hF2, hbk2⟩
  change u 6 = _ at h6
  simp only [h6, vcs, eqV, nilV, Option.map_some, Nat.mul_one, implies_true, true_and, and_true, and_self]
  have hFw2 : Fm none' w W2 := hf0.trans hF2
  have hbxW2 : W2.heap[w.heap.size]? = some (.cells #[.int .u16 0, .bool false, .int .u16 0, .int .u32 0, .slice none 0 0] 32 (0, 0)) := hF2.keep hbx0 id
  have hpre : ∀ x : Dg × Int, decD ys = x ↔ (if 1024 < ys.length ∨ 1 < ys.getD 2 0 ∨ ((numsD ys).any = false ∧ ((numsD ys).last ≠ 0 ∨ (numsD ys).bits ≠ 0)) then (dgZ, 3)
      else if (decodeM ((bodyB ys).drop 9)).2 ≠ 0 then (dgZ, (decodeM ((bodyB ys).drop 9)).2) else ({ numsD ys with list := (decodeM ((bodyB ys).drop 9)).1 }, 0)) = x := by
    intro x
    unfold decD
    rw [if_neg (by omega), if_neg (by rw [hbody, ← hk]; simpa using hsum)]
  have hgd : ys.getD 2 0 = y2 := by rw [List.getD_eq_getElem?_getD, hy2]; rfl
  have form : (1024 < ys.length ∨ 1 < y2 ∨ ((numsD ys).any = false ∧ ((numsD ys).last ≠ 0 ∨ (numsD ys).bits ≠ 0))) → decD ys = (dgZ, 3) := by
    intro h
    rw [hpre, hgd, if_pos h]
  refine ⟨fun _ w' => w' = W2 ∧ ¬ (1024 < ys.length ∨ 1 < y2 ∨ ((numsD ys).any = false ∧ ((numsD ys).last ≠ 0 ∨ (numsD ys).bits ≠ 0))), ?_, ?_⟩
  · have hc2W : W2.cell? (ad.add 2) = some (.int .u8 y2) := hf0.trans hF2 |>.cell (by
      obtain ⟨_, e, h⟩ := hb 2 y2 hy2
      cases e; exact h) id
    have k1 : W2.cell? ((⟨b2, 0, none⟩ : Addr).add 1) = some (.bool (numsD ys).any) := by rw [addr_add]; exact cellOf hbk2 rfl
    have k2 : W2.cell? ((⟨b2, 0, none⟩ : Addr).add 2) = some (.int .u16 (numsD ys).last) := by rw [addr_add]; exact cellOf hbk2 rfl
    have k3 : W2.cell? ((⟨b2, 0, none⟩ : Addr).add 3) = some (.int .u32 (numsD ys).bits) := by rw [addr_add]; exact cellOf hbk2 rfl
    simp only [hc2W, k1, k2, k3, vcs, eqV, nilV, Option.map_some, Nat.mul_one, implies_true, true_and, and_true, and_self]
    refine br_dec (fun h => fail 3 W2 (form (.inl (by omega))) hFw2 ⟨_, rfl, hbxW2⟩) fun h1 => ⟨by omega, ?_⟩
    refine br_dec (fun h => fail 3 W2 (form (.inr (.inl h))) hFw2 ⟨_, rfl, hbxW2⟩) fun h2 => ?_
    cases ha : (numsD ys).any with
    | true =>
      intro h
      rcases h with h | h | h
      · omega
      · omega
      · cases h.1
    | false =>
      refine br_dec (fun h => fail 3 W2 (form (.inr (.inr ⟨ha, .inl (by omega)⟩))) hFw2 ⟨_, rfl, hbxW2⟩) fun h3 => ?_
      refine br_dec (fun h => fail 3 W2 (form (.inr (.inr ⟨ha, .inr (by omega)⟩))) hFw2 ⟨_, rfl, hbxW2⟩) fun h4 => ?_
      intro h
      rcases h with h | h | h
      · omega
      · omega
      · rcases h.2 with h | h <;> omega
  rintro u3 W3 ⟨rfl, hgo⟩
  refine sliceAt_lo (by rw [row25]) row5 (by omega) (by omega) ?_
  simp only [vcs, eqV, nilV, Option.map_some, Nat.mul_one, implies_true, true_and, and_true, and_self]
  have hdl : ((bodyB ys).drop 9).length = k - 9 := by rw [hbody, List.length_drop, hbl]
  have hbB : BytesAt W3 (if c = Int.toNat 9 then (if c = 0 then some ad else some (ad.add 0)) else (if c = 0 then some ad else some (ad.add 0)).map (·.add (Int.toNat 9))) ((bodyB ys).drop 9) := by
    have h0 : BytesAt W3 (if c = 0 then some ad else some (ad.add 0)) (ys.take k) := ((hb.keep hFw2 fun _ _ => id).take k).zero c
    have := bytes_sub h0 (lo := 9) (hi := k) (cap := c) (by omega) (by omega)
    rw [List.take_of_length_le (Nat.le_of_eq hbl), ← hbody] at this
    exact this
  rw [show k - Int.toNat 9 = ((bodyB ys).drop 9).length from hdl.symm]
  refine (decode18_c hbB (fun y h => hy y (List.mem_of_mem_take (List.mem_of_mem_drop h))) (by omega)).mono ?_
  rintro _ W4 ⟨sv, rfl, hown, hF4⟩
  obtain ⟨pm, cm, rfl, -⟩ := hown.at
  simp only [vcs, eqV, nilV, Option.map_some, Nat.mul_one, implies_true, true_and, and_true, and_self, List.getElem?_toArray, List.getElem?_cons_zero, List.getElem?_cons_succ]
  have hbxW4 := hF4.keep hbxW2 id
  have hF4w := hFw2.trans hF4
  refine br_ndec (fun he => ?_) (fun he => ?_)
  · exact fail _ W4 (by rw [hpre, hgd, if_neg hgo, if_pos he]) hF4w ⟨_, rfl, hbxW4⟩
  have hbk4 := hF4.keep hbk2 id
  rw [addr_add]
  refine stC_one hbk4 (by simp) rfl fun W5 hb5 hf5 => ?_
  refine rd_of (cells_all hb5 rfl) ?_
  refine rd_of (v := ()) rfl ?_
  have hbx5 : W5.heap[w.heap.size]? = some (.cells #[.int .u16 0, .bool false, .int .u16 0, .int .u32 0, .slice none 0 0] 32 (0, 0)) := hf5.keep hbxW4 (by omega)
  refine stC_all hbx5 rfl (fun v hv => by simp at hv; rcases hv with rfl | rfl | rfl | rfl | rfl <;> rfl) fun W6 hb6 hf6 => ?_
  refine rd_of (cells_all hb6 rfl) ?_
  have hdec : decD ys = ({ numsD ys with list := (decodeM ((bodyB ys).drop 9)).1 }, 0) := by
    rw [hpre, hgd, if_neg hgo, if_neg (by simpa using he)]
  rw [hdec]
  refine ⟨pm, cm, rfl, ?_, (hF4w.trans' hf5 fun i hi e => by omega).trans' hf6 fun i hi e => by omega⟩
  refine OwnMsgs.keep (S := fun i => i = b2 ∨ i = w.heap.size) ?_ ((hf5.mono fun i _ e => .inl e).trans (hf6.mono fun i _ e => .inr e)) ?_
  · exact hown.base hFw2.size
  · rintro i cc t hi hbi ht (rfl | rfl)
    · rw [hbk4] at hi; cases hi; rcases ht with h | h <;> cases h
    · rw [hbxW4] at hi; cases hi; rcases ht with h | h <;> cases h
end Go.Proofs.YtipikchkbmgloaaDoor
namespace Go.Proofs.YtipikchkbmgloaaDoor
set_option linter.unusedSimpArgs false
set_option linter.unusedVariables false
open Go VC
theorem vc37 (a : Addr) (w : World) (R : Value → World → Prop)
  (h : rd (World.cell? w a) fun v0 => isB v0 fun t1 => R (Value.bool t1) w) :
  callV Tryd.prog 37 [Value.pointer (some a)] w R :=
  vc_of hm noHints Tryd.func37 ent37 (by kernel_rfl) h

theorem vc39 (a : Addr) (w : World) (R : Value → World → Prop)
  (h : rd (World.cell? (World.drew w) (Addr.add a (1 : Nat))) fun v0 => isK IntKind.u16 v0 fun i1 => rd (World.cell? (World.drew w) (Addr.add a (2 : Nat))) fun v2 => isK IntKind.u32 v2 fun i3 => R (Value.tuple #[Value.int IntKind.u16 i1, Value.int IntKind.u32 i3]) (World.drew w)) :
  callV Tryd.prog 39 [Value.pointer (some a)] w R :=
  vc_of hm ⟨fun _ => false, fun n => match n with | 1 => .take 0 (.take 1 (.take 2 (.take 3 (.take 4 (.take 5 (.take 6 (.take 7 (.take 8 (.take 9 (.done)))))))))) | _ => .done, fun _ => []⟩ Tryd.func39 ent39 (by kernel_rfl) h

theorem vc40 (a : Addr) (b : Int) (w : World) (R : Value → World → Prop)
  (h : rd (World.cell? w (Addr.add a (1 : Nat))) fun v0 => isK IntKind.u16 v0 fun i1 => callV Tryd.prog (68 : Nat) [Value.int IntKind.u16 b, Value.int IntKind.u16 i1] w fun v2 w3 => isK IntKind.i64 v2 fun i4 => rd (World.cell? w3 a) fun v5 => isB v5 fun t6 => br (!t6) (stC w3 a [Value.bool true] fun w7 => heldC (World.drew w7) fun u8 => (∀ (w9 : World), u8 w9 → Value.pointer (some a) = Value.pointer (some a) ∧ w9 = w9) ∧ (∀ (w11 : World), u8 w11 → Value.pointer (some a) = Value.pointer (some a) ∧ w11 = w11) ∧ (∀ (w13 : World), u8 w13 → Value.pointer (some a) = Value.pointer (some a) ∧ w13 = w13) ∧ (∀ (w15 : World), u8 w15 → Value.pointer (some (Addr.add a (2 : Nat))) = Value.pointer (some (Addr.add a (2 : Nat))) ∧ w15 = w15) ∧ rd (World.cell? (World.drew w7) (Addr.add a (2 : Nat))) fun v17 => (∀ (w18 : World), u8 w18 → rd (World.cell? w18 (Addr.add a (2 : Nat))) fun v20 => v20 = v17 ∧ w18 = w18) ∧ isK IntKind.u32 v17 fun i21 => (∀ (w22 : World), u8 w22 → Value.int IntKind.i64 (64 : Int) = Value.int IntKind.i64 (64 : Int) ∧ w22 = w22) ∧ (∀ (w24 : World), u8 w24 → Value.int IntKind.u32 (IntKind.wrap IntKind.u32 (i21 * (4294967296 : Int))) = Value.int IntKind.u32 (IntKind.wrap IntKind.u32 (i21 * (4294967296 : Int))) ∧ w24 = w24) ∧ (∀ (w26 : World), u8 w26 → Value.int IntKind.i64 (64 : Int) = Value.int IntKind.i64 (64 : Int) ∧ w26 = w26) ∧ (∀ (w28 : World), u8 w28 → Value.int IntKind.i64 (63 : Int) = Value.int IntKind.i64 (63 : Int) ∧ w28 = w28) ∧ (∀ (w30 : World), u8 w30 → Value.int IntKind.u32 (0 : Int) = Value.int IntKind.u32 (0 : Int) ∧ w30 = w30) ∧ (∀ (w32 : World), u8 w32 → Value.int IntKind.u32 (orI IntKind.u32 (IntKind.wrap IntKind.u32 (i21 * (4294967296 : Int))) (0 : Int)) = Value.int IntKind.u32 (orI IntKind.u32 (IntKind.wrap IntKind.u32 (i21 * (4294967296 : Int))) (0 : Int)) ∧ w32 = w32) ∧ stC (World.drew w7) (Addr.add a (2 : Nat)) [Value.int IntKind.u32 (orI IntKind.u32 (IntKind.wrap IntKind.u32 (i21 * (4294967296 : Int))) (0 : Int))] fun w34 => stC w34 (Addr.add a (1 : Nat)) [Value.int IntKind.u16 b] fun w35 => R (Value.bool true) w35) (br (decide ((0 : Int) < i4)) (heldC (World.drew w3) fun u36 => (∀ (w37 : World), u36 w37 → Value.pointer (some a) = Value.pointer (some a) ∧ w37 = w37) ∧ (∀ (w39 : World), u36 w39 → Value.pointer (some a) = Value.pointer (some a) ∧ w39 = w39) ∧ (∀ (w41 : World), u36 w41 → Value.pointer (some a) = Value.pointer (some a) ∧ w41 = w41) ∧ (∀ (w43 : World), u36 w43 → Value.pointer (some (Addr.add a (2 : Nat))) = Value.pointer (some (Addr.add a (2 : Nat))) ∧ w43 = w43) ∧ rd (World.cell? (World.drew w3) (Addr.add a (2 : Nat))) fun v45 => (∀ (w46 : World), u36 w46 → rd (World.cell? w46 (Addr.add a (2 : Nat))) fun v48 => v48 = v45 ∧ w46 = w46) ∧ isK IntKind.u32 v45 fun i49 => (∀ (w50 : World), u36 w50 → Value.int IntKind.i64 i4 = Value.int IntKind.i64 i4 ∧ w50 = w50) ∧ rd (orO (binV BinOp.shl (Value.int IntKind.u32 i49) (Value.int IntKind.i64 i4)) none) fun v52 => (∀ (w53 : World), u36 w53 → rd (orO (binV BinOp.shl (Value.int IntKind.u32 i49) (Value.int IntKind.i64 i4)) none) fun v55 => v55 = v52 ∧ w53 = w53) ∧ isK IntKind.u32 v52 fun i56 => (∀ (w57 : World), u36 w57 → Value.int IntKind.i64 i4 = Value.int IntKind.i64 i4 ∧ w57 = w57) ∧ (∀ (w59 : World), u36 w59 → Value.int IntKind.i64 (IntKind.wrap IntKind.i64 (i4 - (1 : Int))) = Value.int IntKind.i64 (IntKind.wrap IntKind.i64 (i4 - (1 : Int))) ∧ w59 = w59) ∧ rd (orO (binV BinOp.shl (Value.int IntKind.u32 (1 : Int)) (Value.int IntKind.i64 (IntKind.wrap IntKind.i64 (i4 - (1 : Int))))) none) fun v61 => (∀ (w62 : World), u36 w62 → rd (orO (binV BinOp.shl (Value.int IntKind.u32 (1 : Int)) (Value.int IntKind.i64 (IntKind.wrap IntKind.i64 (i4 - (1 : Int))))) none) fun v64 => v64 = v61 ∧ w62 = w62) ∧ isK IntKind.u32 v61 fun i65 => (∀ (w66 : World), u36 w66 → Value.int IntKind.u32 (orI IntKind.u32 i56 i65) = Value.int IntKind.u32 (orI IntKind.u32 i56 i65) ∧ w66 = w66) ∧ stC (World.drew w3) (Addr.add a (2 : Nat)) [Value.int IntKind.u32 (orI IntKind.u32 i56 i65)] fun w68 => stC w68 (Addr.add a (1 : Nat)) [Value.int IntKind.u16 b] fun w69 => R (Value.bool true) w69) (br (decide (i4 = (0 : Int))) (R (Value.bool false) w3) (br (decide (i4 < (-32 : Int))) (R (Value.bool false) w3) (rd (World.cell? w3 (Addr.add a (2 : Nat))) fun v70 => isK IntKind.u32 v70 fun i71 => rd (orO (binV BinOp.shr (Value.int IntKind.u32 i71) (Value.int IntKind.i64 (IntKind.wrap IntKind.i64 (IntKind.wrap IntKind.i64 ((0 : Int) - i4) - (1 : Int))))) none) fun v72 => isK IntKind.u32 v72 fun i73 => br (decide (andI IntKind.u32 i73 (1 : Int) = (1 : Int))) (R (Value.bool false) w3) (heldC (World.drew w3) fun u74 => (∀ (w75 : World), u74 w75 → Value.pointer (some a) = Value.pointer (some a) ∧ w75 = w75) ∧ (∀ (w77 : World), u74 w77 → Value.pointer (some a) = Value.pointer (some a) ∧ w77 = w77) ∧ (∀ (w79 : World), u74 w79 → Value.pointer (some (Addr.add a (2 : Nat))) = Value.pointer (some (Addr.add a (2 : Nat))) ∧ w79 = w79) ∧ rd (World.cell? (World.drew w3) (Addr.add a (2 : Nat))) fun v81 => (∀ (w82 : World), u74 w82 → rd (World.cell? w82 (Addr.add a (2 : Nat))) fun v84 => v84 = v81 ∧ w82 = w82) ∧ isK IntKind.u32 v81 fun i85 => (∀ (w86 : World), u74 w86 → Value.int IntKind.i64 i4 = Value.int IntKind.i64 i4 ∧ w86 = w86) ∧ (∀ (w88 : World), u74 w88 → Value.int IntKind.i64 (IntKind.wrap IntKind.i64 ((0 : Int) - i4)) = Value.int IntKind.i64 (IntKind.wrap IntKind.i64 ((0 : Int) - i4)) ∧ w88 = w88) ∧ (∀ (w90 : World), u74 w90 → Value.int IntKind.i64 (IntKind.wrap IntKind.i64 (IntKind.wrap IntKind.i64 ((0 : Int) - i4) - (1 : Int))) = Value.int IntKind.i64 (IntKind.wrap IntKind.i64 (IntKind.wrap IntKind.i64 ((0 : Int) - i4) - (1 : Int))) ∧ w90 = w90) ∧ rd (orO (binV BinOp.shl (Value.int IntKind.u32 (1 : Int)) (Value.int IntKind.i64 (IntKind.wrap IntKind.i64 (IntKind.wrap IntKind.i64 ((0 : Int) - i4) - (1 : Int))))) none) fun v92 => (∀ (w93 : World), u74 w93 → rd (orO (binV BinOp.shl (Value.int IntKind.u32 (1 : Int)) (Value.int IntKind.i64 (IntKind.wrap IntKind.i64 (IntKind.wrap IntKind.i64 ((0 : Int) - i4) - (1 : Int))))) none) fun v95 => v95 = v92 ∧ w93 = w93) ∧ isK IntKind.u32 v92 fun i96 => stC (World.drew w3) (Addr.add a (2 : Nat)) [Value.int IntKind.u32 (orI IntKind.u32 i85 i96)] fun w97 => R (Value.bool true) w97)))))) :
  callV Tryd.prog 40 [Value.pointer (some a), Value.int IntKind.u16 b] w R :=
  vc_of hm ⟨fun _ => false, fun n => match n with | 6 => .take 0 (.take 1 (.take 2 (.take 3 (.take 4 (.take 5 (.take 6 (.take 7 (.take 8 (.take 9 (.take 10 (.last 11 (.last 12 (.last 13 (.done)))))))))))))) | 9 => .take 0 (.take 1 (.take 2 (.take 3 (.take 4 (.take 5 (.take 6 (.take 7 (.last 8 (.last 9 (.last 10 (.last 11 (.done)))))))))))) | _ => .done, fun _ => []⟩ Tryd.func40 ent40 (by kernel_rfl) h

theorem vc43 (a : Int) (b : Int) (c : Int) (w : World) (R : Value → World → Prop)
  (h : callV Tryd.prog (68 : Nat) [Value.int IntKind.u16 a, Value.int IntKind.u16 c] w fun v0 w1 => isK IntKind.i64 v0 fun i2 => br (decide (i2 < (0 : Int))) (R (Value.bool false) w1) (br (decide ((32 : Int) < i2)) (R (Value.bool false) w1) (br (decide ((0 : Int) < i2)) (rd (orO (binV BinOp.shr (Value.int IntKind.u32 b) (Value.int IntKind.i64 (IntKind.wrap IntKind.i64 (i2 - (1 : Int))))) none) fun v3 => isK IntKind.u32 v3 fun i4 => R (Value.bool (decide (andI IntKind.u32 i4 (1 : Int) = (1 : Int)))) w1) (R (Value.bool true) w1)))) :
  callV Tryd.prog 43 [Value.int IntKind.u16 a, Value.int IntKind.u32 b, Value.int IntKind.u16 c] w R :=
  vc_of hm noHints Tryd.func43 ent43 (by kernel_rfl) h

theorem vc68 (a : Int) (b : Int) (w : World) (R : Value → World → Prop)
  (h : R (Value.int IntKind.i64 (IntKind.wrap IntKind.i64 (IntKind.wrap IntKind.i16 (IntKind.wrap IntKind.u16 (a - b))))) w) :
  callV Tryd.prog 68 [Value.int IntKind.u16 a, Value.int IntKind.u16 b] w R :=
  vc_of hm noHints Tryd.func68 ent68 (by kernel_rfl) h

theorem vc38 (ap : Option Addr) (an : Nat) (ac : Nat) (w : World) (R : Value → World → Prop)
  (h : br (Option.isNone ap) (R (Value.slice none (0 : Nat) (0 : Nat)) w) (runs Tryd.prog (Instr.buildSlice (24 : Nat) (0 : Nat) #[]) w fun v0 w1 => isSl v0 fun o2 n3 n4 => runs Tryd.prog (Builtin.append_ #[(24 : Nat), (24 : Nat)] (24 : Nat) #[Value.slice o2 n3 n4, Value.slice ap an ac]) w1 fun v5 w6 => isSl v5 fun o7 n8 n9 => R (Value.slice o7 n8 n9) w6)) :
  callV Tryd.prog 38 [Value.slice ap an ac] w R :=
  vc_of hm noHints Tryd.func38 ent38 (by kernel_rfl) h

theorem vc15 (w : World) (R : Value → World → Prop)
  (h : allocC w (Obj.cells #[Value.int IntKind.u16 (0 : Int), Value.slice none (0 : Nat) (0 : Nat), Value.slice none (0 : Nat) (0 : Nat), Value.bool false, Value.int IntKind.u16 (0 : Int), Value.int IntKind.u32 (0 : Int), Value.int IntKind.i64 (0 : Int), Value.bool false, Value.int IntKind.u32 (0 : Int)] (79 : Nat)) fun n0 w1 => R (Value.pointer (some { block := n0, off := (0 : Nat) : Addr })) w1) :
  callV Tryd.prog 15 [] w R :=
  vc_of hm noHints Tryd.func15 ent15 (by kernel_rfl) h

theorem vc19 (a : Addr) (b0 : Int) (b1 : Int) (b20 : Int) (b21 : Int) (b22 : Int) (b23 : Int) (b24 : Int) (b3 : Int) (b4 : Int) (b5 : Int) (b60 : Int) (b61 : Int) (b62 : Int) (b7 : Int) (b80 : Int) (b81 : Int) (b82 : Int) (b90 : Int) (b91 : Int) (b92 : Int) (b10 : Int) (b11 : Int) (b12p : Option Addr) (b12n : Nat) (b12c : Nat) (w : World) (R : Value → World → Prop)
  (h : allocC w (Obj.cells #[Value.int IntKind.i64 b0, Value.int IntKind.u16 b1, Value.int IntKind.u16 b20, Value.int IntKind.u8 b21, Value.int IntKind.i8 b22, Value.int IntKind.i8 b23, Value.int IntKind.i64 b24, Value.int IntKind.u16 b3, Value.int IntKind.i64 b4, Value.int IntKind.i64 b5, Value.int IntKind.i64 b60, Value.int IntKind.i64 b61, Value.int IntKind.i64 b62, Value.int IntKind.i64 b7, Value.int IntKind.i64 b80, Value.int IntKind.i64 b81, Value.int IntKind.i64 b82, Value.int IntKind.i64 b90, Value.int IntKind.i64 b91, Value.int IntKind.i64 b92, Value.int IntKind.u32 b10, Value.int IntKind.u32 b11, Value.slice b12p b12n b12c] (53 : Nat)) fun n0 w1 => rd (cellsAt w1 { block := n0, off := (0 : Nat) : Addr } (23 : Nat)) fun l2 => callV Tryd.prog (16 : Nat) [Value.agg (List.toArray l2)] w1 fun v3 w4 => isB v3 fun t5 => br (!t5) (R (Value.int IntKind.i64 (1 : Int)) w4) (rd (World.cell? w4 (Addr.add a (1 : Nat))) fun v6 => isSl v6 fun o7 n8 n9 => br (decide ((↑n8 : Int) = (64 : Int))) (R (Value.int IntKind.i64 (5 : Int)) w4) (rd (World.cell? w4 { block := n0, off := (22 : Nat) : Addr }) fun v10 => isSl v10 fun o11 n12 n13 => callV Tryd.prog (47 : Nat) [Value.slice o11 n12 n13] w4 fun v14 w15 => isSl v14 fun o16 n17 n18 => stC w15 { block := n0, off := (22 : Nat) : Addr } [Value.slice o16 n17 n18] fun w19 => heldC (World.drew w19) fun u20 => (∀ (w21 : World), u20 w21 → Value.pointer (some a) = Value.pointer (some a) ∧ w21 = w21) ∧ (∀ (w23 : World), u20 w23 → Value.pointer (some a) = Value.pointer (some a) ∧ w23 = w23) ∧ (∀ (w25 : World), u20 w25 → Value.pointer (some a) = Value.pointer (some a) ∧ w25 = w25) ∧ (∀ (w27 : World), u20 w27 → Value.pointer (some (Addr.add a (1 : Nat))) = Value.pointer (some (Addr.add a (1 : Nat))) ∧ w27 = w27) ∧ rd (World.cell? (World.drew w19) (Addr.add a (1 : Nat))) fun v29 => (∀ (w30 : World), u20 w30 → rd (World.cell? w30 (Addr.add a (1 : Nat))) fun v32 => v32 = v29 ∧ w30 = w30) ∧ isSl v29 fun o33 n34 n35 => rd (cellsAt (World.drew w19) { block := n0, off := (0 : Nat) : Addr } (23 : Nat)) fun l36 => (∀ (w37 : World), u20 w37 → rd (cellsAt w37 { block := n0, off := (0 : Nat) : Addr } (23 : Nat)) fun l39 => Value.agg (List.toArray l39) = Value.agg (List.toArray l36) ∧ w37 = w37) ∧ rd (gd (List.length l36 == (23 : Nat) && true)) fun _x => (∀ (w40 : World), u20 w40 → rd (gd (List.length l36 == (23 : Nat) && true)) fun _x => Value.agg (List.toArray (l36 ++ [Value.bool false])) = Value.agg (List.toArray (l36 ++ [Value.bool false])) ∧ w40 = w40) ∧ rd (gd (List.length (Array.toList (List.toArray (l36 ++ [Value.bool false]))) == (24 : Nat))) fun _x => allocC (World.drew w19) (Obj.cells (List.toArray (cellsOf true (Value.agg (List.toArray (l36 ++ [Value.bool false]))))) (100 : Nat)) fun n42 w43 => u20 w43 ∧ runs Tryd.prog (Instr.buildSlice (74 : Nat) (1 : Nat) #[((0 : Nat), Value.pointer (some { block := n42, off := (0 : Nat) : Addr }))]) w43 fun v44 w45 => isSl v44 fun o46 n47 n48 => u20 w45 ∧ runs Tryd.prog (Builtin.append_ #[(74 : Nat), (74 : Nat)] (74 : Nat) #[Value.slice o33 n34 n35, Value.slice o46 n47 n48]) w45 fun v49 w50 => isSl v49 fun o51 n52 n53 => u20 w50 ∧ stC w50 (Addr.add a (1 : Nat)) [Value.slice o51 n52 n53] fun w54 => R (Value.int IntKind.i64 (0 : Int)) w54))) :
  callV Tryd.prog 19 [Value.pointer (some a), Value.agg #[Value.int IntKind.i64 b0, Value.int IntKind.u16 b1, Value.int IntKind.u16 b20, Value.int IntKind.u8 b21, Value.int IntKind.i8 b22, Value.int IntKind.i8 b23, Value.int IntKind.i64 b24, Value.int IntKind.u16 b3, Value.int IntKind.i64 b4, Value.int IntKind.i64 b5, Value.int IntKind.i64 b60, Value.int IntKind.i64 b61, Value.int IntKind.i64 b62, Value.int IntKind.i64 b7, Value.int IntKind.i64 b80, Value.int IntKind.i64 b81, Value.int IntKind.i64 b82, Value.int IntKind.i64 b90, Value.int IntKind.i64 b91, Value.int IntKind.i64 b92, Value.int IntKind.u32 b10, Value.int IntKind.u32 b11, Value.slice b12p b12n b12c]] w R :=
  vc_of hm ⟨fun _ => false, fun n => match n with | 6 => .take 0 (.take 1 (.take 2 (.take 3 (.take 4 (.take 5 (.take 6 (.one 7 (.one 8 (.one 9 (.last 10 (.last 11 (.last 12 (.done))))))))))))) | _ => .done, fun _ => []⟩ Tryd.func19 ent19 (by kernel_rfl) h

theorem vc20 (a : Addr) (w : World) (R : Value → World → Prop)
  (h : rd (World.cell? w (Addr.add a (1 : Nat))) fun v0 => isSl v0 fun o1 n2 n3 => R (Value.int IntKind.i64 (↑n2 : Int)) w) :
  callV Tryd.prog 20 [Value.pointer (some a)] w R :=
  vc_of hm noHints Tryd.func20 ent20 (by kernel_rfl) h

theorem vc21 (a : Addr) (w : World) (R : Value → World → Prop)
  (h : rd (World.cell? w (Addr.add a (6 : Nat))) fun v0 => isK IntKind.i64 v0 fun i1 => R (Value.int IntKind.i64 i1) w) :
  callV Tryd.prog 21 [Value.pointer (some a)] w R :=
  vc_of hm noHints Tryd.func21 ent21 (by kernel_rfl) h

theorem vc70 (a : Addr) (b : Int) (w : World) (R : Value → World → Prop)
  (h : rd (World.cell? w (Addr.add a (7 : Nat))) fun v0 => isB v0 fun t1 => br t1 (rd (World.cell? w (Addr.add a (6 : Nat))) fun v2 => isK IntKind.i64 v2 fun i3 => stC w (Addr.add a (6 : Nat)) [Value.int IntKind.i64 (IntKind.wrap IntKind.i64 (Int.tdiv (IntKind.wrap IntKind.i64 (IntKind.wrap IntKind.i64 (IntKind.wrap IntKind.i64 ((7 : Int) * i3) + b) + (4 : Int))) (8 : Int)))] fun w4 => stC w4 (Addr.add a (7 : Nat)) [Value.bool true] fun w5 => R (Value.tuple #[]) w5) (stC w (Addr.add a (6 : Nat)) [Value.int IntKind.i64 b] fun w6 => stC w6 (Addr.add a (7 : Nat)) [Value.bool true] fun w7 => R (Value.tuple #[]) w7)) :
  callV Tryd.prog 70 [Value.pointer (some a), Value.int IntKind.i64 b] w R :=
  vc_of hm noHints Tryd.func70 ent70 (by kernel_rfl) h

theorem vc44 (a : Addr) (b0 : Int) (b1 : Int) (b2p : Option Addr) (b2n : Nat) (b2c : Nat) (c : Int) (w : World) (R : Value → World → Prop)
  (h : allocC w (Obj.cells #[Value.int IntKind.u16 b0, Value.int IntKind.u32 b1, Value.slice b2p b2n b2c] (97 : Nat)) fun n0 w1 => rd (World.cell? w1 { block := n0, off := (1 : Nat) : Addr }) fun v2 => isK IntKind.u32 v2 fun i3 => br (decide (i3 < c)) (rd (World.cell? w1 { block := n0, off := (1 : Nat) : Addr }) fun v4 => isK IntKind.u32 v4 fun i5 => callV Tryd.prog (70 : Nat) [Value.pointer (some a), Value.int IntKind.i64 (IntKind.wrap IntKind.i64 (min (IntKind.wrap IntKind.u32 (c - i5)) (1000 : Int)))] w1 fun v6 w7 => rd (World.cell? w7 { block := n0, off := (2 : Nat) : Addr }) fun v8 => isSl v8 fun o9 n10 n11 => loopC (alist [((25 : Nat), Value.int IntKind.i64 (0 : Int))]) w7 fun u12 u13 => ∀ (u14 : Nat → Value) (w15 : World), u12 (alist [((25 : Nat), u14 (25 : Nat))]) w15 → rd (orO (binV BinOp.lss (u14 (25 : Nat)) (Value.int IntKind.i64 (↑n10 : Int))) none) fun v17 => isB v17 fun t18 => br t18 (isInt (u14 (25 : Nat)) fun k19 i20 => rd o9 fun a21 => ((0 : Int) ≤ i20 ∧ i20 < (↑n10 : Int)) ∧ rd (World.cell? w15 (Addr.add a21 (Int.toNat i20 * (1 : Nat)))) fun v22 => isP v22 fun o23 => rd (nilChk (Value.pointer o23)) fun v24 => isPtr v24 fun a25 => stC w15 (Addr.add a25 (23 : Nat)) [Value.bool true] fun w26 => rd (orO (binV BinOp.add (u14 (25 : Nat)) (Value.int IntKind.i64 (1 : Int))) none) fun v27 => isK IntKind.i64 v27 fun i28 => again u12 u13 (alist [((25 : Nat), Value.int IntKind.i64 i28)]) w26 (alist [((25 : Nat), u14 (25 : Nat))]) w15) (R (Value.tuple #[]) w15)) (callV Tryd.prog (70 : Nat) [Value.pointer (some a), Value.int IntKind.i64 (0 : Int)] w1 fun v29 w30 => rd (World.cell? w30 { block := n0, off := (2 : Nat) : Addr }) fun v31 => isSl v31 fun o32 n33 n34 => loopC (alist [((25 : Nat), Value.int IntKind.i64 (0 : Int))]) w30 fun u35 u36 => ∀ (u37 : Nat → Value) (w38 : World), u35 (alist [((25 : Nat), u37 (25 : Nat))]) w38 → rd (orO (binV BinOp.lss (u37 (25 : Nat)) (Value.int IntKind.i64 (↑n33 : Int))) none) fun v40 => isB v40 fun t41 => br t41 (isInt (u37 (25 : Nat)) fun k42 i43 => rd o32 fun a44 => ((0 : Int) ≤ i43 ∧ i43 < (↑n33 : Int)) ∧ rd (World.cell? w38 (Addr.add a44 (Int.toNat i43 * (1 : Nat)))) fun v45 => isP v45 fun o46 => rd (nilChk (Value.pointer o46)) fun v47 => isPtr v47 fun a48 => stC w38 (Addr.add a48 (23 : Nat)) [Value.bool true] fun w49 => rd (orO (binV BinOp.add (u37 (25 : Nat)) (Value.int IntKind.i64 (1 : Int))) none) fun v50 => isK IntKind.i64 v50 fun i51 => again u35 u36 (alist [((25 : Nat), Value.int IntKind.i64 i51)]) w49 (alist [((25 : Nat), u37 (25 : Nat))]) w38) (R (Value.tuple #[]) w38))) :
  callV Tryd.prog 44 [Value.pointer (some a), Value.agg #[Value.int IntKind.u16 b0, Value.int IntKind.u32 b1, Value.slice b2p b2n b2c], Value.int IntKind.u32 c] w R :=
  vc_of hm ⟨fun _ => false, fun _ => .done, fun n => match n with | 6 => [25] | _ => []⟩ Tryd.func44 ent44 (by kernel_rfl) h

end Go.Proofs.YtipikchkbmgloaaDoor
namespace Go.Proofs.YtipikchkbmgloaaDoor
set_option linter.unusedSimpArgs false
set_option linter.unusedVariables false
open Go VC
theorem vc69 (ap : Option Addr) (an : Nat) (ac : Nat) (b : Value) (w : World) (R : Value → World → Prop)
  (h : loopC (alist [((8 : Nat), Value.int IntKind.i64 (0 : Int))]) w fun u0 u1 => ∀ (u2 : Nat → Value) (w3 : World), u0 (alist [((8 : Nat), u2 (8 : Nat))]) w3 → rd (orO (binV BinOp.lss (u2 (8 : Nat)) (Value.int IntKind.i64 (↑an : Int))) none) fun v5 => isB v5 fun t6 => br t6 (isK IntKind.i64 (u2 (8 : Nat)) fun i7 => rd ap fun a8 => ((0 : Int) ≤ i7 ∧ i7 < (↑an : Int)) ∧ rd (cellsAt w3 (Addr.add a8 (Int.toNat i7 * (3 : Nat))) (3 : Nat)) fun l9 => isFn b fun f10 l11 l12 => callF Tryd.prog f10 (l11 ++ [Value.agg (List.toArray l9)]) l12 w3 fun v13 w14 => isB v13 fun t15 => br t15 (R (Value.int IntKind.i64 i7) w14) (rd (orO (binV BinOp.add (u2 (8 : Nat)) (Value.int IntKind.i64 (1 : Int))) none) fun v16 => isK IntKind.i64 v16 fun i17 => again u0 u1 (alist [((8 : Nat), Value.int IntKind.i64 i17)]) w14 (alist [((8 : Nat), u2 (8 : Nat))]) w3)) (R (Value.int IntKind.i64 (-1 : Int)) w3)) :
  callV Tryd.prog 69 [Value.slice ap an ac, b] w R :=
  vc_of hm ⟨fun _ => false, fun _ => .done, fun n => match n with | 2 => [8] | _ => []⟩ Tryd.func69 ent69 (by kernel_rfl) h

theorem vc71 (ap : Option Addr) (an : Nat) (ac : Nat) (b : Value) (w : World) (R : Value → World → Prop)
  (h : loopC (alist [((8 : Nat), Value.int IntKind.i64 (0 : Int))]) w fun u0 u1 => ∀ (u2 : Nat → Value) (w3 : World), u0 (alist [((8 : Nat), u2 (8 : Nat))]) w3 → rd (orO (binV BinOp.lss (u2 (8 : Nat)) (Value.int IntKind.i64 (↑an : Int))) none) fun v5 => isB v5 fun t6 => br t6 (isK IntKind.i64 (u2 (8 : Nat)) fun i7 => rd ap fun a8 => ((0 : Int) ≤ i7 ∧ i7 < (↑an : Int)) ∧ rd (World.cell? w3 (Addr.add a8 (Int.toNat i7 * (1 : Nat)))) fun v9 => isP v9 fun o10 => isFn b fun f11 l12 l13 => callF Tryd.prog f11 (l12 ++ [Value.pointer o10]) l13 w3 fun v14 w15 => isB v14 fun t16 => br t16 (R (Value.int IntKind.i64 i7) w15) (rd (orO (binV BinOp.add (u2 (8 : Nat)) (Value.int IntKind.i64 (1 : Int))) none) fun v17 => isK IntKind.i64 v17 fun i18 => again u0 u1 (alist [((8 : Nat), Value.int IntKind.i64 i18)]) w15 (alist [((8 : Nat), u2 (8 : Nat))]) w3)) (R (Value.int IntKind.i64 (-1 : Int)) w3)) :
  callV Tryd.prog 71 [Value.slice ap an ac, b] w R :=
  vc_of hm ⟨fun _ => false, fun _ => .done, fun n => match n with | 2 => [8] | _ => []⟩ Tryd.func71 ent71 (by kernel_rfl) h

theorem vc46 (a : Addr) (w : World) (R : Value → World → Prop)
  (h : rd (World.cell? w (Addr.add a (23 : Nat))) fun v0 => isB v0 fun t1 => R (Value.bool t1) w) :
  callV Tryd.prog 46 [Value.pointer (some a)] w R :=
  vc_of hm noHints Tryd.func46 ent46 (by kernel_rfl) h

theorem vc42 (a0 : Int) (a1 : Int) (a2p : Option Addr) (a2n : Nat) (a2c : Nat) (c0 : Addr) (c1 : Addr) (c2 : Addr) (w : World) (R : Value → World → Prop)
  (h : allocC w (Obj.cells #[Value.int IntKind.u16 a0, Value.int IntKind.u32 a1, Value.slice a2p a2n a2c] (97 : Nat)) fun n0 w1 => rd (World.cell? w1 (Addr.add c0 (1 : Nat))) fun v2 => isB v2 fun t3 => br (!t3) (R (Value.bool false) w1) (rd (World.cell? w1 (Addr.add c0 (2 : Nat))) fun v4 => isK IntKind.u16 v4 fun i5 => rd (World.cell? w1 (Addr.add c0 (3 : Nat))) fun v6 => isK IntKind.u32 v6 fun i7 => rd (World.cell? w1 { block := n0, off := (0 : Nat) : Addr }) fun v8 => isK IntKind.u16 v8 fun i9 => callV Tryd.prog (43 : Nat) [Value.int IntKind.u16 i5, Value.int IntKind.u32 i7, Value.int IntKind.u16 i9] w1 fun v10 w11 => isB v10 fun t12 => br (!t12) (R (Value.bool false) w11) (rd (World.cell? w11 c1) fun v13 => isP v13 fun o14 => rd (cellsAt w11 { block := n0, off := (0 : Nat) : Addr } (3 : Nat)) fun l15 => rd (World.cell? w11 c2) fun v16 => isK IntKind.u32 v16 fun i17 => callV Tryd.prog (44 : Nat) [Value.pointer o14, Value.agg (List.toArray l15), Value.int IntKind.u32 i17] w11 fun v18 w19 => R (Value.bool true) w19))) :
  callV Tryd.prog 42 [Value.agg #[Value.int IntKind.u16 a0, Value.int IntKind.u32 a1, Value.slice a2p a2n a2c], Value.pointer (some c0), Value.pointer (some c1), Value.pointer (some c2)] w R :=
  vc_of hm noHints Tryd.func42 ent42 (by kernel_rfl) h

theorem vc41 (ap : Option Addr) (an : Nat) (ac : Nat) (b : Value) (w : World) (R : Value → World → Prop)
  (h : callV Tryd.prog (69 : Nat) [Value.slice ap an ac, b] w fun v0 w1 => isK IntKind.i64 v0 fun i2 => br (decide (i2 = (-1 : Int))) (R (Value.slice ap an ac) w1) (loopC (alist [((5 : Nat), Value.int IntKind.i64 i2), ((6 : Nat), Value.int IntKind.i64 (IntKind.wrap IntKind.i64 (i2 + (1 : Int))))]) w1 fun u3 u4 => ∀ (u5 : Nat → Value) (w6 : World), u3 (alist [((5 : Nat), u5 (5 : Nat)), ((6 : Nat), u5 (6 : Nat))]) w6 → isK IntKind.i64 (u5 (6 : Nat)) fun i8 => br (decide (i8 < (↑an : Int))) (isK IntKind.i64 (u5 (6 : Nat)) fun i9 => rd ap fun a10 => ((0 : Int) ≤ i9 ∧ i9 < (↑an : Int)) ∧ rd (cellsAt w6 (Addr.add a10 (Int.toNat i9 * (3 : Nat))) (3 : Nat)) fun l11 => allocC w6 (Obj.cells #[Value.int IntKind.u16 (0 : Int), Value.int IntKind.u32 (0 : Int), Value.slice none (0 : Nat) (0 : Nat)] (97 : Nat)) fun n12 w13 => rd (gd (List.length l11 == (3 : Nat))) fun _x => stC w13 { block := n12, off := (0 : Nat) : Addr } l11 fun w14 => rd (cellsAt w14 { block := n12, off := (0 : Nat) : Addr } (3 : Nat)) fun l15 => isFn b fun f16 l17 l18 => callF Tryd.prog f16 (l17 ++ [Value.agg (List.toArray l15)]) l18 w14 fun v19 w20 => isB v19 fun t21 => br (!t21) (isK IntKind.i64 (u5 (5 : Nat)) fun i22 => rd (cellsAt w20 { block := n12, off := (0 : Nat) : Addr } (3 : Nat)) fun l23 => rd ap fun a24 => ((0 : Int) ≤ i22 ∧ i22 < (↑an : Int)) ∧ rd (gd (List.length l23 == (3 : Nat))) fun _x => stC w20 (Addr.add a24 (Int.toNat i22 * (3 : Nat))) l23 fun w25 => isK IntKind.i64 (u5 (5 : Nat)) fun i26 => isK IntKind.i64 (u5 (6 : Nat)) fun i27 => again u3 u4 (alist [((5 : Nat), Value.int IntKind.i64 (IntKind.wrap IntKind.i64 (i26 + (1 : Int)))), ((6 : Nat), Value.int IntKind.i64 (IntKind.wrap IntKind.i64 (i27 + (1 : Int))))]) w25 (alist [((5 : Nat), u5 (5 : Nat)), ((6 : Nat), u5 (6 : Nat))]) w6) (isK IntKind.i64 (u5 (6 : Nat)) fun i28 => again u3 u4 (alist [((5 : Nat), u5 (5 : Nat)), ((6 : Nat), Value.int IntKind.i64 (IntKind.wrap IntKind.i64 (i28 + (1 : Int))))]) w20 (alist [((5 : Nat), u5 (5 : Nat)), ((6 : Nat), u5 (6 : Nat))]) w6)) (isK IntKind.i64 (u5 (5 : Nat)) fun i29 => runs Tryd.prog (Instr.sliceAt (75 : Nat) (Value.slice ap an ac) (some (Value.int IntKind.i64 i29)) none none) w6 fun v30 w31 => isSl v30 fun o32 n33 n34 => runs Tryd.prog (Builtin.clear_ #[(75 : Nat)] (0 : Nat) #[Value.slice o32 n33 n34]) w31 fun v35 w36 => isK IntKind.i64 (u5 (5 : Nat)) fun i37 => runs Tryd.prog (Instr.sliceAt (75 : Nat) (Value.slice ap an ac) none (some (Value.int IntKind.i64 i37)) none) w36 fun v38 w39 => isSl v38 fun o40 n41 n42 => R (Value.slice o40 n41 n42) w39))) :
  callV Tryd.prog 41 [Value.slice ap an ac, b] w R :=
  vc_of hm ⟨fun _ => false, fun _ => .done, fun n => match n with | 5 => [5, 6] | _ => []⟩ Tryd.func41 ent41 (by kernel_rfl) h

theorem vc45 (ap : Option Addr) (an : Nat) (ac : Nat) (b : Value) (w : World) (R : Value → World → Prop)
  (h : callV Tryd.prog (71 : Nat) [Value.slice ap an ac, b] w fun v0 w1 => isK IntKind.i64 v0 fun i2 => br (decide (i2 = (-1 : Int))) (R (Value.slice ap an ac) w1) (loopC (alist [((5 : Nat), Value.int IntKind.i64 i2), ((6 : Nat), Value.int IntKind.i64 (IntKind.wrap IntKind.i64 (i2 + (1 : Int))))]) w1 fun u3 u4 => ∀ (u5 : Nat → Value) (w6 : World), u3 (alist [((5 : Nat), u5 (5 : Nat)), ((6 : Nat), u5 (6 : Nat))]) w6 → isK IntKind.i64 (u5 (6 : Nat)) fun i8 => br (decide (i8 < (↑an : Int))) (isK IntKind.i64 (u5 (6 : Nat)) fun i9 => rd ap fun a10 => ((0 : Int) ≤ i9 ∧ i9 < (↑an : Int)) ∧ rd (World.cell? w6 (Addr.add a10 (Int.toNat i9 * (1 : Nat)))) fun v11 => isP v11 fun o12 => isFn b fun f13 l14 l15 => callF Tryd.prog f13 (l14 ++ [Value.pointer o12]) l15 w6 fun v16 w17 => isB v16 fun t18 => br (!t18) (isK IntKind.i64 (u5 (5 : Nat)) fun i19 => rd ap fun a20 => ((0 : Int) ≤ i19 ∧ i19 < (↑an : Int)) ∧ stC w17 (Addr.add a20 (Int.toNat i19 * (1 : Nat))) [Value.pointer o12] fun w21 => isK IntKind.i64 (u5 (5 : Nat)) fun i22 => isK IntKind.i64 (u5 (6 : Nat)) fun i23 => again u3 u4 (alist [((5 : Nat), Value.int IntKind.i64 (IntKind.wrap IntKind.i64 (i22 + (1 : Int)))), ((6 : Nat), Value.int IntKind.i64 (IntKind.wrap IntKind.i64 (i23 + (1 : Int))))]) w21 (alist [((5 : Nat), u5 (5 : Nat)), ((6 : Nat), u5 (6 : Nat))]) w6) (isK IntKind.i64 (u5 (6 : Nat)) fun i24 => again u3 u4 (alist [((5 : Nat), u5 (5 : Nat)), ((6 : Nat), Value.int IntKind.i64 (IntKind.wrap IntKind.i64 (i24 + (1 : Int))))]) w17 (alist [((5 : Nat), u5 (5 : Nat)), ((6 : Nat), u5 (6 : Nat))]) w6)) (isK IntKind.i64 (u5 (5 : Nat)) fun i25 => runs Tryd.prog (Instr.sliceAt (74 : Nat) (Value.slice ap an ac) (some (Value.int IntKind.i64 i25)) none none) w6 fun v26 w27 => isSl v26 fun o28 n29 n30 => runs Tryd.prog (Builtin.clear_ #[(74 : Nat)] (0 : Nat) #[Value.slice o28 n29 n30]) w27 fun v31 w32 => isK IntKind.i64 (u5 (5 : Nat)) fun i33 => runs Tryd.prog (Instr.sliceAt (74 : Nat) (Value.slice ap an ac) none (some (Value.int IntKind.i64 i33)) none) w32 fun v34 w35 => isSl v34 fun o36 n37 n38 => R (Value.slice o36 n37 n38) w35))) :
  callV Tryd.prog 45 [Value.slice ap an ac, b] w R :=
  vc_of hm ⟨fun _ => false, fun _ => .done, fun n => match n with | 5 => [5, 6] | _ => []⟩ Tryd.func45 ent45 (by kernel_rfl) h

theorem vc18 (a : Addr) (bp : Option Addr) (bn : Nat) (bc : Nat) (c : Int) (w : World) (R : Value → World → Prop)
  (h : allocC w (Obj.cells #[Value.pointer (some a)] (43 : Nat)) fun n0 w1 => allocC w1 (Obj.cells #[Value.int IntKind.u32 c] (23 : Nat)) fun n2 w3 => callV Tryd.prog (12 : Nat) [Value.slice bp bn bc] w3 fun v4 w5 => isTup v4 fun l6 => rd l6[(0 : Nat)]? fun v7 => isTup v4 fun l8 => rd l8[(1 : Nat)]? fun v9 => isK IntKind.i64 v9 fun i10 => allocC w5 (Obj.cells #[Value.int IntKind.u16 (0 : Int), Value.bool false, Value.int IntKind.u16 (0 : Int), Value.int IntKind.u32 (0 : Int), Value.slice none (0 : Nat) (0 : Nat)] (32 : Nat)) fun n11 w12 => rd (gd (List.length (Array.toList (Value.cells v7)) == (5 : Nat))) fun _x => stC w12 { block := n11, off := (0 : Nat) : Addr } (cellsOf true v7) fun w13 => br (!decide (i10 = (0 : Int))) (R (Value.tuple #[Value.slice none (0 : Nat) (0 : Nat), Value.int IntKind.i64 i10]) w13) (heldC (World.drew w13) fun u14 => rd (World.cell? (World.drew w13) { block := n0, off := (0 : Nat) : Addr }) fun v15 => (∀ (w16 : World), u14 w16 → rd (World.cell? w16 { block := n0, off := (0 : Nat) : Addr }) fun v18 => v18 = v15 ∧ w16 = w16) ∧ isP v15 fun o19 => rd (nilChk (Value.pointer o19)) fun v20 => (∀ (w21 : World), u14 w21 → rd (nilChk (Value.pointer o19)) fun v23 => v23 = v20 ∧ w21 = w21) ∧ isPtr v20 fun a24 => (∀ (w25 : World), u14 w25 → isPtr v20 fun a27 => Value.pointer (some (Addr.add a27 (3 : Nat))) = Value.pointer (some (Addr.add a24 (3 : Nat))) ∧ w25 = w25) ∧ (∀ (w28 : World), u14 w28 → Value.pointer (some { block := n11, off := (0 : Nat) : Addr }) = Value.pointer (some { block := n11, off := (0 : Nat) : Addr }) ∧ w28 = w28) ∧ rd (World.cell? (World.drew w13) { block := n11, off := (0 : Nat) : Addr }) fun v30 => (∀ (w31 : World), u14 w31 → rd (World.cell? w31 { block := n11, off := (0 : Nat) : Addr }) fun v33 => v33 = v30 ∧ w31 = w31) ∧ isK IntKind.u16 v30 fun i34 => callV Tryd.prog (40 : Nat) [Value.pointer (some (Addr.add a24 (3 : Nat))), Value.int IntKind.u16 i34] (World.drew w13) fun v35 w36 => isB v35 fun t37 => u14 w36 ∧ (∀ (w38 : World), u14 w38 → (Value.bool !t37) = Value.bool !t37 ∧ w38 = w38) ∧ br (!t37) (R (Value.tuple #[Value.slice none (0 : Nat) (0 : Nat), Value.int IntKind.i64 (7 : Int)]) w36) (rd (World.cell? w36 { block := n0, off := (0 : Nat) : Addr }) fun v40 => isP v40 fun o41 => rd (World.cell? w36 { block := n2, off := (0 : Nat) : Addr }) fun v42 => isK IntKind.u32 v42 fun i43 => rd (nilChk (Value.pointer o41)) fun v44 => isPtr v44 fun a45 => stC w36 (Addr.add a45 (8 : Nat)) [Value.int IntKind.u32 i43] fun w46 => heldC (World.drew w46) fun u47 => rd (World.cell? (World.drew w46) { block := n0, off := (0 : Nat) : Addr }) fun v48 => (∀ (w49 : World), u47 w49 → rd (World.cell? w49 { block := n0, off := (0 : Nat) : Addr }) fun v51 => v51 = v48 ∧ w49 = w49) ∧ isP v48 fun o52 => rd (World.cell? (World.drew w46) { block := n0, off := (0 : Nat) : Addr }) fun v53 => (∀ (w54 : World), u47 w54 → rd (World.cell? w54 { block := n0, off := (0 : Nat) : Addr }) fun v56 => v56 = v53 ∧ w54 = w54) ∧ isP v53 fun o57 => rd (nilChk (Value.pointer o57)) fun v58 => (∀ (w59 : World), u47 w59 → rd (nilChk (Value.pointer o57)) fun v61 => v61 = v58 ∧ w59 = w59) ∧ isPtr v58 fun a62 => (∀ (w63 : World), u47 w63 → isPtr v58 fun a65 => Value.pointer (some (Addr.add a65 (2 : Nat))) = Value.pointer (some (Addr.add a62 (2 : Nat))) ∧ w63 = w63) ∧ rd (World.cell? (World.drew w46) (Addr.add a62 (2 : Nat))) fun v66 => (∀ (w67 : World), u47 w67 → rd (World.cell? w67 (Addr.add a62 (2 : Nat))) fun v69 => v69 = v66 ∧ w67 = w67) ∧ isSl v66 fun o70 n71 n72 => (∀ (w73 : World), u47 w73 → Value.func (Fn.func (42 : Nat)) #[] #[Value.pointer (some { block := n11, off := (0 : Nat) : Addr }), Value.pointer (some { block := n0, off := (0 : Nat) : Addr }), Value.pointer (some { block := n2, off := (0 : Nat) : Addr })] = Value.func (Fn.func (42 : Nat)) #[] #[Value.pointer (some { block := n11, off := (0 : Nat) : Addr }), Value.pointer (some { block := n0, off := (0 : Nat) : Addr }), Value.pointer (some { block := n2, off := (0 : Nat) : Addr })] ∧ w73 = w73) ∧ callV Tryd.prog (41 : Nat) [Value.slice o70 n71 n72, Value.func (Fn.func (42 : Nat)) #[] #[Value.pointer (some { block := n11, off := (0 : Nat) : Addr }), Value.pointer (some { block := n0, off := (0 : Nat) : Addr }), Value.pointer (some { block := n2, off := (0 : Nat) : Addr })]] (World.drew w46) fun v75 w76 => isSl v75 fun o77 n78 n79 => u47 w76 ∧ rd (nilChk (Value.pointer o52)) fun v80 => isPtr v80 fun a81 => stC w76 (Addr.add a81 (2 : Nat)) [Value.slice o77 n78 n79] fun w82 => heldC (World.drew w82) fun u83 => rd (World.cell? (World.drew w82) { block := n0, off := (0 : Nat) : Addr }) fun v84 => (∀ (w85 : World), u83 w85 → rd (World.cell? w85 { block := n0, off := (0 : Nat) : Addr }) fun v87 => v87 = v84 ∧ w85 = w85) ∧ isP v84 fun o88 => rd (World.cell? (World.drew w82) { block := n0, off := (0 : Nat) : Addr }) fun v89 => (∀ (w90 : World), u83 w90 → rd (World.cell? w90 { block := n0, off := (0 : Nat) : Addr }) fun v92 => v92 = v89 ∧ w90 = w90) ∧ isP v89 fun o93 => rd (nilChk (Value.pointer o93)) fun v94 => (∀ (w95 : World), u83 w95 → rd (nilChk (Value.pointer o93)) fun v97 => v97 = v94 ∧ w95 = w95) ∧ isPtr v94 fun a98 => (∀ (w99 : World), u83 w99 → isPtr v94 fun a101 => Value.pointer (some (Addr.add a101 (1 : Nat))) = Value.pointer (some (Addr.add a98 (1 : Nat))) ∧ w99 = w99) ∧ rd (World.cell? (World.drew w82) (Addr.add a98 (1 : Nat))) fun v102 => (∀ (w103 : World), u83 w103 → rd (World.cell? w103 (Addr.add a98 (1 : Nat))) fun v105 => v105 = v102 ∧ w103 = w103) ∧ isSl v102 fun o106 n107 n108 => callV Tryd.prog (45 : Nat) [Value.slice o106 n107 n108, Value.func (Fn.func (46 : Nat)) #[] #[]] (World.drew w82) fun v109 w110 => isSl v109 fun o111 n112 n113 => u83 w110 ∧ rd (nilChk (Value.pointer o88)) fun v114 => isPtr v114 fun a115 => stC w110 (Addr.add a115 (1 : Nat)) [Value.slice o111 n112 n113] fun w116 => rd (World.cell? w116 { block := n11, off := (4 : Nat) : Addr }) fun v117 => isSl v117 fun o118 n119 n120 => R (Value.tuple #[Value.slice o118 n119 n120, Value.int IntKind.i64 (0 : Int)]) w116))) :
  callV Tryd.prog 18 [Value.pointer (some a), Value.slice bp bn bc, Value.int IntKind.u32 c] w R :=
  vc_of hm ⟨fun _ => false, fun n => match n with | 4 => .take 0 (.take 1 (.take 2 (.take 3 (.take 4 (.one 5 (.take 6 (.done))))))) | 7 => .take 0 (.take 1 (.take 2 (.take 3 (.take 4 (.take 5 (.one 6 (.last 7 (.last 8 (.last 9 (.done)))))))))) | 8 => .take 0 (.take 1 (.take 2 (.take 3 (.take 4 (.one 5 (.last 6 (.last 7 (.last 8 (.done))))))))) | _ => .done, fun _ => []⟩ Tryd.func18 ent18 (by kernel_rfl) h

end Go.Proofs.YtipikchkbmgloaaDoor
namespace Go.Proofs.YtipikchkbmgloaaDoor
set_option linter.unusedSimpArgs false
set_option linter.unusedVariables false
open Go Go.RowKit VC
variable {w : World}
def distI (a b : Nat) : Int := ((a : Int) - b + 32768) % 65536 - 32768
theorem distI_eq (a b : Nat) : IntKind.i64.wrap (IntKind.i16.wrap (IntKind.u16.wrap ((a : Int) - b))) = distI a b := by
  rw [IntKind.wrap_i64]
  simp only [IntKind.wrap, IntKind.bits, IntKind.signed, distI]
  simp
  omega
theorem distI_r (a b : Nat) : -32768 ≤ distI a b ∧ distI a b < 32768 := by unfold distI; omega
structure Win where
  any : Bool
  last : Nat
  bits : Nat
structure Wok (W : Win) : Prop where
  last : W.last < 65536
  bits : W.bits < 4294967296
def accW (W : Win) (n : Nat) : Bool × Win :=
  if W.any = false then (true, ⟨true, n, 0⟩)
  else if 0 < distI n W.last then (true, ⟨true, n, (W.bits * 2 ^ (distI n W.last).toNat % 4294967296 ||| 2 ^ ((distI n W.last).toNat - 1) % 4294967296)⟩)
  else if distI n W.last = 0 ∨ distI n W.last < -32 ∨ W.bits.testBit ((-distI n W.last).toNat - 1) = true then (false, W)
  else (true, ⟨true, W.last, W.bits ||| 2 ^ ((-distI n W.last).toNat - 1)⟩)
def ackW (last bits n : Nat) : Bool :=
  if distI last n < 0 ∨ 32 < distI last n then false
  else if 0 < distI last n then bits.testBit ((distI last n).toNat - 1)
  else true
theorem or_lt32 {a b : Nat} (ha : a < 4294967296) (hb : b < 4294967296) : a ||| b < 4294967296 := Nat.or_lt_two_pow (n := 32) ha hb
theorem accW_ok {W : Win} {n : Nat} (h : Wok W) (hn : n < 65536) : Wok (accW W n).2 := by
  obtain ⟨h1, h2⟩ := h
  unfold accW
  split
  · exact ⟨hn, by show 0 < 4294967296; omega⟩
  · split
    · exact ⟨hn, or_lt32 (Nat.mod_lt _ (by omega)) (Nat.mod_lt _ (by omega))⟩
    · split
      · exact ⟨h1, h2⟩
      · rename_i hd
        refine ⟨h1, or_lt32 h2 ?_⟩
        rw [not_or, not_or] at hd
        have : (-distI n W.last).toNat - 1 ≤ 31 := by omega
        calc 2 ^ ((-distI n W.last).toNat - 1) ≤ 2 ^ 31 := Nat.pow_le_pow_right (by omega) this
          _ < 4294967296 := by decide
theorem orI32 {a b : Nat} (ha : a < 4294967296) (hb : b < 4294967296) : orI .u32 (a : Int) (b : Int) = ((a ||| b : Nat) : Int) := by
  unfold orI
  have : ((BitVec.ofInt IntKind.u32.bits (a : Int)) ||| (BitVec.ofInt IntKind.u32.bits (b : Int))).toNat = a ||| b := by
    rw [BitVec.toNat_or, BitVec.ofInt_natCast, BitVec.ofInt_natCast, BitVec.toNat_ofNat, BitVec.toNat_ofNat, show IntKind.u32.bits = 32 from rfl, Nat.mod_eq_of_lt (by omega), Nat.mod_eq_of_lt (by omega)]
  rw [this, w32]
  have := or_lt32 ha hb
  omega
theorem w32m (n : Nat) : IntKind.u32.wrap (n : Int) = ((n % 4294967296 : Nat) : Int) := by simp only [IntKind.wrap, IntKind.bits, IntKind.signed]; simp
theorem shl32 (a d : Nat) : IntKind.u32.wrap ((a : Int) * 2 ^ (min d IntKind.u32.bits)) = ((a * 2 ^ d % 4294967296 : Nat) : Int) := by
  have e : ((a : Int) * 2 ^ (min d IntKind.u32.bits)) = ((a * 2 ^ (min d 32) : Nat) : Int) := by
    rw [show IntKind.u32.bits = 32 from rfl]
    exact_mod_cast rfl
  rw [e, w32m]
  congr 1
  by_cases h : d ≤ 32
  · rw [Nat.min_eq_left h]
  · rw [Nat.min_eq_right (by omega)]
    obtain ⟨k, rfl⟩ : ∃ k, d = 32 + k := ⟨d - 32, by omega⟩
    rw [show (4294967296 : Nat) = 2 ^ 32 from rfl, Nat.mul_mod_left, Nat.pow_add, ← Nat.mul_assoc, Nat.mul_right_comm, Nat.mul_mod_left]
theorem bit1 (a k : Nat) (ha : a < 4294967296) (hk : k ≤ 31) : (andI .u32 ((a : Int).fdiv (2 ^ (min k IntKind.u32.bits))) 1 = 1) ↔ a.testBit k = true := by
  have e : ((a : Int).fdiv (2 ^ (min k IntKind.u32.bits))) = ((a / 2 ^ k : Nat) : Int) := by
    rw [Nat.min_eq_left (by have : IntKind.u32.bits = 32 := rfl; omega)]
    have : (2 : Int) ^ k = ((2 ^ k : Nat) : Int) := by exact_mod_cast rfl
    rw [this, fdivN]
  rw [e]
  have hlt : a / 2 ^ k < 4294967296 := Nat.lt_of_le_of_lt (Nat.div_le_self _ _) ha
  have h1 : andI .u32 ((a / 2 ^ k : Nat) : Int) 1 = ((a / 2 ^ k % 2 : Nat) : Int) := by
    unfold andI
    have : ((BitVec.ofInt IntKind.u32.bits ((a / 2 ^ k : Nat) : Int)) &&& (BitVec.ofInt IntKind.u32.bits ((1 : Nat) : Int))).toNat = a / 2 ^ k % 2 := by
      rw [BitVec.toNat_and, BitVec.ofInt_natCast, BitVec.ofInt_natCast, BitVec.toNat_ofNat, BitVec.toNat_ofNat, show IntKind.u32.bits = 32 from rfl, Nat.mod_eq_of_lt (by omega), Nat.mod_eq_of_lt (by omega), Nat.and_one_is_mod]
    rw [show ((1 : Int)) = ((1 : Nat) : Int) from rfl, this, w32]
    omega
  rw [h1, Nat.testBit_eq_decide_div_mod_eq, decide_eq_true_eq]
  omega
theorem dist68_c (a b : Nat) : callV Tryd.prog 68 [.int .u16 a, .int .u16 b] w fun v w' => v = .int .i64 (distI a b) ∧ w' = w := by
  refine vc68 a b w _ ?_
  rw [distI_eq]
  exact ⟨rfl, rfl⟩
def WinAt (w : World) (a : Addr) (W : Win) : Prop := w.cell? a = some (.bool W.any) ∧ w.cell? (a.add 1) = some (.int .u16 W.last) ∧ w.cell? (a.add 2) = some (.int .u32 W.bits)
theorem any37_c {a : Addr} {W : Win} (h : WinAt w a W) : callV Tryd.prog 37 [.pointer (some a)] w fun v w' => v = .bool W.any ∧ w' = w := by
  refine vc37 a w _ ?_
  simp only [h.1, vcs, eqV, nilV, Option.map_some, Nat.mul_one, implies_true, true_and, and_true, and_self]
theorem ack39_c {a : Addr} {W : Win} (h : WinAt w a W) : callV Tryd.prog 39 [.pointer (some a)] w fun v w' => v = .tuple #[.int .u16 W.last, .int .u32 W.bits] ∧ w' = w.drew := by
  refine vc39 a w _ ?_
  simp only [h.2.1, h.2.2, cell_drew, vcs, eqV, nilV, Option.map_some, Nat.mul_one, implies_true, true_and, and_true, and_self]
theorem acked43_c {last bits n : Nat} (hb : bits < 4294967296) : callV Tryd.prog 43 [.int .u16 last, .int .u32 bits, .int .u16 n] w fun v w' => v = .bool (ackW last bits n) ∧ w' = w := by
  refine vc43 last bits n w _ ?_
  refine (dist68_c last n).mono ?_
  rintro _ _ ⟨rfl, rfl⟩
  simp only [vcs, eqV, nilV, Option.map_some, Nat.mul_one, implies_true, true_and, and_true, and_self]
  unfold ackW
  refine br_dec (fun h => ?_) (fun h => ?_)
  · rw [if_pos (.inl h)]
  refine br_dec (fun h2 => ?_) (fun h2 => ?_)
  · rw [if_pos (.inr h2)]
  rw [if_neg (by omega)]
  refine br_dec (fun h3 => ?_) (fun h3 => ?_)
  · rw [if_pos h3]
    obtain ⟨k, hk⟩ : ∃ k : Nat, distI last n = k + 1 := ⟨(distI last n).toNat - 1, by omega⟩
    rw [hk, show IntKind.i64.wrap ((k : Int) + 1 - 1) = (k : Int) from (w64 (by omega)).trans (by omega)]
    simp only [vcs, eqV, nilV, Option.map_some, Nat.mul_one, implies_true, true_and, and_true, and_self]
    have := bit1 bits k hb (by omega)
    rw [show ((k : Int) + 1).toNat - 1 = k by omega]
    cases ht : bits.testBit k with
    | true => rw [ht] at this; simp [this]
    | false => rw [ht] at this; simp [this]
  · rw [if_neg h3]
def BoxA (w : World) (A : Nat) (x0 x1 x2 : Value) (W : Win) (x6 x7 x8 : Value) : Prop := w.heap[A]? = some (.cells #[x0, x1, x2, .bool W.any, .int .u16 W.last, .int .u32 W.bits, x6, x7, x8] 79 (0, 0))
theorem BoxA.win {A : Nat} {x0 x1 x2 x6 x7 x8 : Value} {W : Win} (h : BoxA w A x0 x1 x2 W x6 x7 x8) : WinAt w ⟨A, 3, none⟩ W := by
  refine ⟨cellOf h rfl, ?_, ?_⟩
  · rw [addr_add]; exact cellOf h rfl
  · rw [addr_add]; exact cellOf h rfl
theorem accept40_c {A n : Nat} {x0 x1 x2 x6 x7 x8 : Value} {W : Win} (h : BoxA w A x0 x1 x2 W x6 x7 x8) (hW : Wok W) (hn : n < 65536) :
    callV Tryd.prog 40 [.pointer (some ⟨A, 3, none⟩), .int .u16 n] w fun v w' => v = .bool (accW W n).1 ∧ BoxA w' A x0 x1 x2 (accW W n).2 x6 x7 x8 ∧ Fm (fun i => i = A) w w' := by
  refine vc40 ⟨A, 3, none⟩ n w _ ?_
  have c0 : w.cell? ⟨A, 3, none⟩ = some (.bool W.any) := cellOf h rfl
  have c1 : w.cell? ⟨A, 4, none⟩ = some (.int .u16 W.last) := cellOf h rfl
  have c2 : w.cell? ⟨A, 5, none⟩ = some (.int .u32 W.bits) := cellOf h rfl
  simp only [addr_add, Nat.reduceAdd, c1, vcs, eqV, nilV, Option.map_some, Nat.mul_one, implies_true, true_and, and_true, and_self]
  refine (dist68_c n W.last).mono ?_
  rintro _ w ⟨rfl, rfl⟩
  have hd := distI_r n W.last
  simp only [c0, vcs, eqV, nilV, Option.map_some, Nat.mul_one, implies_true, true_and, and_true, and_self]
  cases ha : W.any with
  | false =>
    simp only [vcs, eqV, nilV, Option.map_some, Nat.mul_one, implies_true, true_and, and_true, and_self, Bool.not_false]
    refine stC_one h (by simp) rfl fun w7 hb7 hf7 => ?_
    refine ⟨fun w' => w' = w7.drew, rfl, ?_⟩
    have k2 : w7.cell? ⟨A, 5, none⟩ = some (.int .u32 W.bits) := cellOf hb7 rfl
    simp only [k2, cell_drew, forall_eq, vcs, eqV, nilV, Option.map_some, Nat.mul_one, implies_true, true_and, and_true, and_self]
    rw [show IntKind.u32.wrap ((W.bits : Int) * 4294967296) = 0 by simp only [IntKind.wrap, IntKind.bits, IntKind.signed]; simp, show orI .u32 0 0 = 0 from rfl]
    refine stC_one (w := w7.drew) hb7 (by simp) rfl fun w34 hb34 hf34 => ?_
    refine stC_one hb34 (by simp) rfl fun w35 hb35 hf35 => ?_
    have e : accW W n = (true, ⟨true, n, 0⟩) := by unfold accW; rw [if_pos ha]
    rw [e]
    exact ⟨rfl, hb35, ((hf7.trans (Fm.drew w7).none).trans hf34).trans hf35⟩
  | true =>
    simp only [vcs, eqV, nilV, Option.map_some, Nat.mul_one, implies_true, true_and, and_true, and_self, Bool.not_true]
    have hna : ¬ W.any = false := by rw [ha]; simp
    refine br_dec (fun h1 => ?_) (fun h1 => ?_)
    · refine ⟨fun w' => w' = w.drew, rfl, ?_⟩
      obtain ⟨k, hk⟩ : ∃ k : Nat, distI n W.last = k + 1 := ⟨(distI n W.last).toNat - 1, by omega⟩
      have e : accW W n = (true, ⟨true, n, (W.bits * 2 ^ (k + 1) % 4294967296 ||| 2 ^ k % 4294967296)⟩) := by
        unfold accW
        rw [if_neg hna, if_pos h1, hk, show ((k : Int) + 1).toNat = k + 1 by omega, Nat.add_sub_cancel]
      rw [hk, show IntKind.i64.wrap ((k : Int) + 1 - 1) = (k : Int) from (w64 (by omega)).trans (by omega), e]
      have s1 : binV .shl (.int .u32 W.bits) (.int .i64 ((k : Int) + 1)) = some (.int .u32 ((W.bits * 2 ^ (k + 1) % 4294967296 : Nat) : Int)) := by
        rw [show ((k : Int) + 1) = ((k + 1 : Nat) : Int) by omega, bv_shl, shl32]
      have s2 : binV .shl (.int .u32 1) (.int .i64 (k : Int)) = some (.int .u32 ((2 ^ k % 4294967296 : Nat) : Int)) := by
        rw [bv_shl, show (1 : Int) = ((1 : Nat) : Int) from rfl, shl32, Nat.one_mul]
      simp only [c2, cell_drew, forall_eq, s1, s2, vcs, eqV, nilV, Option.map_some, Nat.mul_one, implies_true, true_and, and_true, and_self]
      rw [orI32 (Nat.mod_lt _ (by omega)) (Nat.mod_lt _ (by omega))]
      refine stC_one (w := w.drew) h (by simp) rfl fun w34 hb34 hf34 => ?_
      refine stC_one hb34 (by simp) rfl fun w35 hb35 hf35 => ?_
      refine ⟨?_, ((Fm.drew w).none.trans hf34).trans hf35⟩
      simp only [ha] at hb35
      exact hb35
    refine br_dec (fun h2 => ?_) (fun h2 => ?_)
    · have e : accW W n = (false, W) := by unfold accW; rw [if_neg hna, if_neg h1, if_pos (.inl h2)]
      rw [e]
      exact ⟨rfl, h, Fm.refl _ _⟩
    refine br_dec (fun h3 => ?_) (fun h3 => ?_)
    · have e : accW W n = (false, W) := by unfold accW; rw [if_neg hna, if_neg h1, if_pos (.inr (.inl h3))]
      rw [e]
      exact ⟨rfl, h, Fm.refl _ _⟩
    obtain ⟨k, hk⟩ : ∃ k : Nat, distI n W.last = -((k : Int) + 1) := ⟨(-distI n W.last).toNat - 1, by omega⟩
    have hk31 : k ≤ 31 := by omega
    have ek : (-distI n W.last).toNat - 1 = k := by rw [hk]; omega
    rw [hk, show IntKind.i64.wrap (IntKind.i64.wrap (0 - -((k : Int) + 1)) - 1) = (k : Int) by rw [show IntKind.i64.wrap (0 - -((k : Int) + 1)) = (k : Int) + 1 from (w64 (by omega)).trans (by omega)]; exact (w64 (by omega)).trans (by omega)]
    simp only [c2, vcs, eqV, nilV, Option.map_some, Nat.mul_one, implies_true, true_and, and_true, and_self]
    have hb1 := bit1 W.bits k hW.bits hk31
    refine br_dec (fun h4 => ?_) (fun h4 => ?_)
    · have e : accW W n = (false, W) := by unfold accW; rw [if_neg hna, if_neg h1, if_pos (.inr (.inr (by rw [ek]; exact hb1.1 h4)))]
      rw [e]
      exact ⟨rfl, h, Fm.refl _ _⟩
    · have e : accW W n = (true, ⟨true, W.last, W.bits ||| 2 ^ k⟩) := by
        unfold accW
        rw [if_neg hna, if_neg h1, ek, if_neg]
        rintro (h | h | h)
        · exact h2 h
        · exact h3 h
        · exact h4 (hb1.2 h)
      rw [e]
      refine ⟨fun w' => w' = w.drew, rfl, ?_⟩
      have hp : 2 ^ k < 4294967296 := Nat.lt_of_le_of_lt (Nat.pow_le_pow_right (by omega) hk31) (by decide)
      have s2 : IntKind.u32.wrap (1 * 2 ^ (min k IntKind.u32.bits)) = ((2 ^ k : Nat) : Int) := by
        have := shl32 1 k
        rw [Nat.one_mul, Nat.mod_eq_of_lt hp] at this
        exact this
      simp only [c2, cell_drew, forall_eq, vcs, eqV, nilV, Option.map_some, Nat.mul_one, implies_true, true_and, and_true, and_self]
      rw [s2, orI32 hW.bits hp]
      refine stC_one (w := w.drew) h (by simp) rfl fun w34 hb34 hf34 => ?_
      refine ⟨?_, (Fm.drew w).none.trans hf34⟩
      simp only [ha] at hb34
      exact hb34
end Go.Proofs.YtipikchkbmgloaaDoor
namespace Go.Proofs.YtipikchkbmgloaaDoor
set_option linter.unusedSimpArgs false
set_option linter.unusedVariables false
open Go Go.RowKit VC
variable {w : World}
theorem flatD_at {α : Type} {enc : α → List Value} {k : Nat} (hk : ∀ x, (enc x).length = k) : ∀ (xs : List α) (j : Nat) (x : α), xs[j]? = some x → ((xs.flatMap enc).drop (j * k)).take k = enc x := by
  intro xs
  induction xs with
  | nil => intro j x h; simp at h
  | cons y xs ih =>
    intro j x h
    cases j with
    | zero =>
      simp only [List.getElem?_cons_zero, Option.some.injEq] at h
      subst h
      simp only [Nat.zero_mul, List.drop_zero, List.flatMap_cons]
      rw [List.take_append_of_le_length (by rw [hk]; omega), List.take_of_length_le (by rw [hk]; omega)]
    | succ j =>
      simp only [List.getElem?_cons_succ] at h
      rw [List.flatMap_cons, List.drop_append, List.drop_eq_nil_of_le (by rw [hk, Nat.succ_mul]; omega), List.nil_append, hk, Nat.succ_mul, Nat.add_sub_cancel]
      exact ih j x h
theorem flatD_len {α : Type} {enc : α → List Value} {k : Nat} (hk : ∀ x, (enc x).length = k) (xs : List α) : (xs.flatMap enc).length = xs.length * k := by
  induction xs with
  | nil => simp
  | cons x xs ih => rw [List.flatMap_cons, List.length_append, ih, hk, List.length_cons, Nat.succ_mul, Nat.add_comm]
theorem clear_S {P : Program} {w : World} {t ty e : TypeId} {k : K} {size by_ : Nat} {z : Value} {K : Value → World → Prop} (ht : (row P t).k = .slice e) (he : row P e = ⟨k, size, by_, some z⟩) {g o n c : Nat} {C : Array Value} {tt : TypeId} (hb : w.heap[g]? = some (.cells C tt (0, 0))) (hn : 0 < n)
    (hs : o + n * z.cells.size ≤ C.size) (h1 : ∀ v ∈ z.cells.toList, v.oneCell' = true) (hz : 0 < z.cells.size)
    (kk : ∀ (w' : World) (C' : Array Value), w'.heap[g]? = some (.cells C' tt (0, 0)) → C'.size = C.size → C'.toList.take o = C.toList.take o → Fm (fun i => i = g) w w' → K (.tuple #[]) w') :
    runs P (Builtin.clear_ #[t] ty #[.slice (some ⟨g, o, none⟩) n c]) w K := by
  obtain ⟨i, hi, hzi, hsi, hbt⟩ := info_of_row he
  have hu := slice_of_row ht
  have hl : (Builtin.zeroCells z.cells n).toList.length = n * z.cells.size := by simp [Builtin.zeroCells]
  have h1' : ∀ v ∈ (Builtin.zeroCells z.cells n).toList, v.oneCell' = true := by
    intro v hv
    simp only [Builtin.zeroCells, Array.toList_map, List.mem_map] at hv
    obtain ⟨j, _, rfl⟩ := hv
    have hj : j % z.cells.size < z.cells.size := Nat.mod_lt _ hz
    rw [getElem!_pos z.cells _ hj]
    exact h1 _ (by simp)
  obtain ⟨c1, C', c2, c3, c4⟩ := stC_at_from (i := o) (Builtin.zeroCells z.cells n).toList 0 w C hb (by omega) h1'
  have hst := canWrite_run (P := P) _ _ _ c1
  obtain ⟨m, rfl⟩ : ∃ m, n = m + 1 := ⟨n - 1, by omega⟩
  refine ⟨_, _, ?_, kk _ C' c2 ?_ ?_ c4⟩
  · simp [Builtin.clear_, run_underlying hu, run_zero hi hzi, hst]
  · have := congrArg List.length c3
    simp only [List.length_append, List.length_take, List.length_drop, Array.length_toList] at this
    have hl2 : (Builtin.zeroCells z.cells (m + 1)).size = (m + 1) * z.cells.size := by simpa using hl
    omega
  · rw [c3, List.append_assoc, List.take_append_of_le_length (by simp; omega), List.take_take]
    congr 1
    omega
def RowIn {α : Type} (w : World) (g : Nat) (t : TypeId) (enc : α → List Value) (k : Nat) (j0 j1 : Nat) (xs : List α) (C : Array Value) : Prop :=
  w.heap[g]? = some (.cells C t (0, 0)) ∧ xs.length * k ≤ C.size ∧ ∀ j x, j0 ≤ j → j < j1 → xs[j]? = some x → (C.toList.drop (j * k)).take k = enc x
theorem RowIn.read {α : Type} {g : Nat} {t : TypeId} {enc : α → List Value} {k j0 j1 j : Nat} {xs : List α} {x : α} {C : Array Value} (h : RowIn w g t enc k j0 j1 xs C) (hj0 : j0 ≤ j) (hj1 : j < j1) (hx : xs[j]? = some x) :
    cellsAt w ⟨g, j * k, none⟩ k = some (enc x) := by
  obtain ⟨h1, h2, h3⟩ := h
  have hj : j < xs.length := (List.getElem?_eq_some_iff.1 hx).1
  have hle : (j + 1) * k ≤ xs.length * k := Nat.mul_le_mul_right _ hj
  rw [Nat.succ_mul] at hle
  rw [cells_row h1 (by omega), h3 j x hj0 hj1 hx]
section
variable {α : Type} {xs : List α} {enc : α → List Value} {p : α → Bool} {ap : Option Addr} {c g f : Nat} {caps : List Value} {I : Nat → World → Prop} {T : Nat → Prop} {C : Array Value}
set_option maxRecDepth 20000 in
theorem index69_c (hap : xs ≠ [] → ap = some ⟨g, 0, none⟩) (hrow : xs ≠ [] → RowIn w g 97 enc 3 0 xs.length xs C) (hlen : xs.length ≤ 1000000) (hTg : ¬ T g)
    (hI : ∀ j x W, xs[j]? = some x → I j W → callV Tryd.prog f (.agg (enc x).toArray :: caps) W fun v W' => v = .bool (p x) ∧ I (j + 1) W' ∧ Fm T W W') (h0 : I 0 w) :
    callV Tryd.prog 69 [.slice ap xs.length c, .func (.func f) #[] caps.toArray] w fun v w' => Fm T w w' ∧
      ((∃ (j : Nat) (x : α), v = .int .i64 j ∧ xs[j]? = some x ∧ p x = true ∧ (∀ y ∈ xs.take j, p y = false) ∧ I (j + 1) w') ∨ (v = .int .i64 (-1) ∧ (∀ y ∈ xs, p y = false) ∧ I xs.length w')) := by
  refine vc69 ap xs.length c _ w _ ?_
  refine ⟨fun u w' => ∃ j : Nat, j ≤ xs.length ∧ u 8 = .int .i64 j ∧ (∀ y ∈ xs.take j, p y = false) ∧ I j w' ∧ Fm T w w', fun u _ => xs.length - (intOf (u 8)).toNat, ⟨0, by omega, rfl, by simp, h0, Fm.refl _ _⟩, ?_⟩
  rintro u w3 ⟨j, hj, h8, hp, hIj, hF⟩
  change u 8 = _ at h8
  simp only [h8, vcs, eqV, nilV, Option.map_some, Nat.mul_one, implies_true, true_and, and_true, and_self]
  refine br_dec (fun hjn => ?_) (fun hjn => ?_)
  · obtain ⟨x, hx⟩ : ∃ x, xs[j]? = some x := ⟨xs[j]'(by omega), by simp⟩
    have hne : xs ≠ [] := by rintro rfl; simp at hx
    have hr := hrow hne
    have hr3 : RowIn w3 g 97 enc 3 0 xs.length xs C := ⟨hF.keep hr.1 hTg, hr.2⟩
    rw [hap hne]
    simp only [addr_add, Nat.zero_add, Int.toNat_natCast, vcs, eqV, nilV, Option.map_some, Nat.mul_one, implies_true, true_and, and_true, and_self]
    rw [hr3.read (by omega) (by omega) hx]
    refine ⟨by omega, ?_⟩
    simp only [List.nil_append, callF_func, List.singleton_append, vcs, eqV, nilV, Option.map_some, Nat.mul_one, implies_true, true_and, and_true, and_self]
    refine (hI j x w3 hx hIj).mono ?_
    rintro _ w14 ⟨rfl, hI14, hF14⟩
    simp only [vcs, eqV, nilV, Option.map_some, Nat.mul_one, implies_true, true_and, and_true, and_self]
    cases hpx : p x with
    | true =>
      simp only [vcs, eqV, nilV, Option.map_some, Nat.mul_one, implies_true, true_and, and_true, and_self]
      exact ⟨hF.trans hF14, .inl ⟨j, x, rfl, hx, hpx, hp, hI14⟩⟩
    | false =>
      simp only [vcs, eqV, nilV, Option.map_some, Nat.mul_one, implies_true, true_and, and_true, and_self]
      rw [show IntKind.i64.wrap ((j : Int) + 1) = (j : Int) + 1 from w64 (by omega)]
      refine ⟨⟨j + 1, by omega, rfl, ?_, hI14, hF.trans hF14⟩, ?_⟩
      · rw [List.take_add_one, hx]
        intro y hy
        simp only [List.mem_append, Option.mem_toList, Option.mem_def, Option.some.injEq] at hy
        rcases hy with hy | rfl
        · exact hp y hy
        · exact hpx
      · show xs.length - ((j : Int) + 1).toNat < xs.length - (j : Int).toNat; omega
  · have : j = xs.length := by omega
    subst this
    rw [List.take_length] at hp
    exact ⟨hF, .inr ⟨hp, hIj⟩⟩
theorem keep_take {x : α} {j : Nat} (hx : xs[j]? = some x) : (xs.take (j + 1)).filter (fun x => !p x) = (xs.take j).filter (fun x => !p x) ++ (if p x then [] else [x]) := by
  rw [List.take_add_one, hx, List.filter_append]
  cases h : p x <;> simp [h]
theorem keep_none (h : ∀ y ∈ xs, p y = false) : xs.filter (fun x => !p x) = xs := by
  rw [List.filter_eq_self]
  intro x hx
  rw [h x hx]; rfl
theorem drop_mid {A B D : List Value} {m k i : Nat} (hA : A.length = i * k) (hB : B.length = k) (hm : m < i ∨ i < m) : ((A ++ B ++ D).drop (m * k)).take k = ((A ++ (List.replicate k (Value.bool false)) ++ D).drop (m * k)).take k := by
  rcases hm with h | h
  · have : (m + 1) * k ≤ i * k := Nat.mul_le_mul_right _ h
    rw [Nat.succ_mul] at this
    rw [List.append_assoc, List.append_assoc, List.drop_append_of_le_length (by omega), List.drop_append_of_le_length (by omega), List.take_append_of_le_length (by rw [List.length_drop]; omega), List.take_append_of_le_length (by rw [List.length_drop]; omega)]
  · have : (i + 1) * k ≤ m * k := Nat.mul_le_mul_right _ h
    rw [Nat.succ_mul] at this
    have e1 : (A ++ B).drop (m * k) = [] := List.drop_eq_nil_of_le (by rw [List.length_append]; omega)
    have e2 : (A ++ List.replicate k (Value.bool false)).drop (m * k) = [] := List.drop_eq_nil_of_le (by rw [List.length_append, List.length_replicate]; omega)
    rw [List.drop_append (l₁ := A ++ B), List.drop_append (l₁ := A ++ List.replicate k (Value.bool false)), e1, e2]
    simp [hA, hB]
theorem mid_other {C' B : List Value} {m k i : Nat} (hi : i * k + k ≤ C'.length) (hB : B.length = k) (hm : m < i ∨ i < m) : ((C'.take (i * k) ++ B ++ C'.drop (i * k + k)).drop (m * k)).take k = (C'.drop (m * k)).take k := by
  have hA : (C'.take (i * k)).length = i * k := by rw [List.length_take]; omega
  have e : C' = C'.take (i * k) ++ (C'.drop (i * k)).take k ++ C'.drop (i * k + k) := by
    rw [List.append_assoc, ← List.drop_drop, List.take_append_drop, List.take_append_drop]
  rw [drop_mid hA hB hm]
  conv => rhs; rw [e]
  exact (drop_mid hA (by rw [List.length_take, List.length_drop]; omega) hm).symm
theorem mid_same {C' B : List Value} {k i : Nat} (hi : i * k + k ≤ C'.length) (hB : B.length = k) : ((C'.take (i * k) ++ B ++ C'.drop (i * k + k)).drop (i * k)).take k = B := by
  have hA : (C'.take (i * k)).length = i * k := by rw [List.length_take]; omega
  rw [List.append_assoc, List.drop_append_of_le_length (by omega), List.drop_eq_nil_of_le (by omega), List.nil_append, List.take_append_of_le_length (by omega), List.take_of_length_le (by omega)]
set_option maxRecDepth 20000 in
set_option maxHeartbeats 1000000 in
theorem delete41_c (hap : xs ≠ [] → ap = some ⟨g, 0, none⟩) (hrow : xs ≠ [] → RowIn w g 97 enc 3 0 xs.length xs C) (hlen : xs.length ≤ 1000000) (hcap : xs.length ≤ c) (hTg : ¬ T g) (hT : ∀ i, T i → i < w.heap.size)
    (h3 : ∀ x, (enc x).length = 3) (h1 : ∀ x ∈ xs, ∀ v ∈ enc x, v.oneCell' = true)
    (hst : ∀ j W W', I j W → (∃ C, W'.heap[g]? = some (.cells C 97 (0, 0))) → Fm (fun i => i = g) W W' → I j W')
    (hI : ∀ j x W, xs[j]? = some x → I j W → callV Tryd.prog f (.agg (enc x).toArray :: caps) W fun v W' => v = .bool (p x) ∧ I (j + 1) W' ∧ Fm T W W') (h0 : I 0 w) :
    callV Tryd.prog 41 [.slice ap xs.length c, .func (.func f) #[] caps.toArray] w fun v w' => v = .slice ap (xs.filter fun x => !p x).length c ∧ I xs.length w' ∧ Fm (fun i => T i ∨ i = g ∧ xs ≠ []) w w' ∧
      (xs ≠ [] → ∃ C', C'.size = C.size ∧ RowIn w' g 97 enc 3 0 xs.length (xs.filter fun x => !p x) C') := by
  refine vc41 ap xs.length c _ w _ ?_
  refine (index69_c hap hrow hlen hTg hI h0).mono ?_
  rintro _ w1 ⟨hF1, h⟩
  rcases h with ⟨j0, x0, rfl, hx0, hp0, hpre, hI1⟩ | ⟨rfl, hall, hI1⟩
  case inr =>
    simp only [vcs, eqV, nilV, Option.map_some, Nat.mul_one, implies_true, true_and, and_true, and_self]
    refine br_dec (fun _ => ?_) (fun h => absurd trivial h)
    rw [keep_none hall]
    refine ⟨rfl, hI1, hF1.mono fun i _ h => .inl h, fun hne => ⟨C, rfl, ?_⟩⟩
    exact ⟨hF1.keep (hrow hne).1 hTg, (hrow hne).2⟩
  have hne : xs ≠ [] := by rintro rfl; simp at hx0
  have hr := hrow hne
  have hj0 : j0 < xs.length := (List.getElem?_eq_some_iff.1 hx0).1
  obtain rfl := hap hne
  simp only [vcs, eqV, nilV, Option.map_some, Nat.mul_one, implies_true, true_and, and_true, and_self]
  refine br_dec (fun h => by omega) (fun _ => ?_)
  rw [show IntKind.i64.wrap ((j0 : Int) + 1) = ((j0 + 1 : Nat) : Int) from (w64 (by omega)).trans (by omega)]
  have hk0 : (xs.take j0).filter (fun x => !p x) = xs.take j0 := keep_none hpre
  have hk1 : (xs.take (j0 + 1)).filter (fun x => !p x) = xs.take j0 := by rw [keep_take hx0, hk0, hp0]; simp
  have hgz : g < w.heap.size := lt_of_blk hr.1
  refine ⟨fun u w' => ∃ (i j : Nat) (C' : Array Value), u 5 = .int .i64 i ∧ u 6 = .int .i64 j ∧ i < j ∧ j ≤ xs.length ∧ i = ((xs.take j).filter fun x => !p x).length ∧ I j w' ∧ Fm (fun i => T i ∨ i = g ∧ xs ≠ []) w w' ∧
      w'.heap[g]? = some (.cells C' 97 (0, 0)) ∧ C'.size = C.size ∧ (∀ m x, ((xs.take j).filter fun x => !p x)[m]? = some x → (C'.toList.drop (m * 3)).take 3 = enc x) ∧ (∀ m x, j ≤ m → xs[m]? = some x → (C'.toList.drop (m * 3)).take 3 = enc x),
    fun u _ => xs.length - (intOf (u 6)).toNat, ?_, ?_⟩
  · refine ⟨j0, j0 + 1, C, rfl, rfl, by omega, by omega, by rw [hk1, List.length_take]; omega, hI1, hF1.mono fun i _ h => .inl h, hF1.keep hr.1 hTg, rfl, ?_, fun m x hm hx => hr.2.2 m x (by omega) (List.getElem?_eq_some_iff.1 hx).1 hx⟩
    intro m x hx
    rw [hk1] at hx
    have hm := (List.getElem?_eq_some_iff.1 hx).1
    rw [List.length_take] at hm
    rw [List.getElem?_take_of_lt (by omega)] at hx
    exact hr.2.2 m x (by omega) (by omega) hx
  rintro u w6 ⟨i, j, C', h5, h6, hij, hjn, hi, hIj, hF, hb, hCs, hlo, hhi⟩
  change u 5 = _ at h5
  change u 6 = _ at h6
  simp only [h5, h6, vcs, eqV, nilV, Option.map_some, Nat.mul_one, implies_true, true_and, and_true, and_self]
  refine br_dec (fun hlt => ?_) (fun hge => ?_)
  · obtain ⟨x, hx⟩ : ∃ x, xs[j]? = some x := ⟨xs[j]'(by omega), by simp⟩
    refine ⟨by omega, ?_⟩
    simp only [addr_add, Nat.zero_add, Int.toNat_natCast]
    have hCn : xs.length * 3 ≤ C'.size := by rw [hCs]; exact hr.2.1
    rw [cells_row hb (by omega), hhi j x (Nat.le_refl _) hx]
    simp only [vcs, eqV, nilV, Option.map_some, Nat.mul_one, implies_true, true_and, and_true, and_self]
    refine allocC_of fun w13 hb13 hs13 hf13 => ?_
    refine rd_of (v := ()) (by rw [h3 x]; rfl) ?_
    refine stC_all hb13 (by rw [h3 x]; rfl) (h1 x (List.mem_of_getElem? hx)) fun w14 hb14 hf14 => ?_
    refine rd_of (cells_all hb14 (by simp [h3 x])) ?_
    have hF14 : Fm none' w6 w14 := hf13.trans' hf14 fun i hi e => by omega
    have hgz6 := hF.size
    simp only [List.nil_append, callF_func, List.singleton_append]
    refine (hI j x w14 hx (hst j w6 w14 hIj ⟨_, hF14.keep hb id⟩ (hF14.mono fun _ _ h => h.elim))).mono ?_
    rintro _ w20 ⟨rfl, hI20, hF20⟩
    simp only [vcs, eqV, nilV, Option.map_some, Nat.mul_one, implies_true, true_and, and_true, and_self]
    have hb20 : w20.heap[g]? = some (.cells C' 97 (0, 0)) := hF20.keep (hF14.keep hb id) hTg
    have hn20 : w20.heap[w6.heap.size]? = some (.cells (enc x).toArray 97 (0, 0)) := hF20.keep hb14 fun h => by have := hT _ h; omega
    have hFw20 : Fm (fun i => T i ∨ i = g ∧ xs ≠ []) w w20 := (hF.trans' hF14 fun _ _ h => h.elim).trans' hF20 fun i _ h => .inl h
    cases hpx : p x with
    | true =>
      simp only [vcs, eqV, nilV, Option.map_some, Nat.mul_one, implies_true, true_and, and_true, and_self, Bool.not_true]
      rw [show IntKind.i64.wrap ((j : Int) + 1) = ((j + 1 : Nat) : Int) from (w64 (by omega)).trans (by omega)]
      have hk : (xs.take (j + 1)).filter (fun x => !p x) = (xs.take j).filter (fun x => !p x) := by rw [keep_take hx, hpx]; simp
      refine ⟨⟨i, j + 1, C', rfl, rfl, by omega, by omega, by rw [hk]; exact hi, hI20, hFw20, hb20, hCs, by rw [hk]; exact hlo, fun m y hm hy => hhi m y (by omega) hy⟩, ?_⟩
      show xs.length - ((j + 1 : Nat) : Int).toNat < xs.length - (j : Int).toNat
      omega
    | false =>
      simp only [vcs, eqV, nilV, Option.map_some, Nat.mul_one, implies_true, true_and, and_true, and_self, Bool.not_false]
      refine rd_of (cells_all hn20 (by simp [h3 x])) ⟨by omega, rd_of (v := ()) (by simp [h3 x, gd]) ?_⟩
      refine stC_at hb20 (by simp [h3 x]; omega) (by simpa using h1 x (List.mem_of_getElem? hx)) fun w25 hb25 hf25 => ?_
      rw [show IntKind.i64.wrap ((j : Int) + 1) = ((j + 1 : Nat) : Int) from (w64 (by omega)).trans (by omega), show IntKind.i64.wrap ((i : Int) + 1) = ((i + 1 : Nat) : Int) from (w64 (by omega)).trans (by omega)]
      have hk : (xs.take (j + 1)).filter (fun x => !p x) = (xs.take j).filter (fun x => !p x) ++ [x] := by rw [keep_take hx, hpx]; simp
      simp only [h3 x] at hb25
      have hCl : i * 3 + 3 ≤ C'.toList.length := by simp; omega
      refine ⟨⟨i + 1, j + 1, _, rfl, rfl, by omega, by omega, by rw [hk, List.length_append, ← hi]; rfl, hst _ _ _ hI20 ⟨_, hb25⟩ hf25, hFw20.trans' hf25 fun i _ h => .inr ⟨h, hne⟩, hb25, ?_, ?_, ?_⟩, ?_⟩
      · simp [h3 x]; omega
      · intro m y hy
        rw [hk] at hy
        by_cases hm : m < i
        · rw [List.getElem?_append_left (by omega)] at hy
          simp only []
          rw [mid_other hCl (h3 x) (.inl hm)]
          exact hlo m y hy
        · have hml := (List.getElem?_eq_some_iff.1 hy).1
          rw [List.length_append, ← hi] at hml
          obtain rfl : m = i := by simp at hml; omega
          rw [List.getElem?_append_right (by omega), ← hi] at hy
          simp at hy
          subst hy
          exact mid_same hCl (h3 x)
      · intro m y hm hy
        simp only []
        rw [mid_other hCl (h3 x) (.inr (by omega))]
        exact hhi m y (by omega) hy
      · show xs.length - ((j + 1 : Nat) : Int).toNat < xs.length - (j : Int).toNat
        omega
  · have hj : j = xs.length := by omega
    subst hj
    rw [List.take_length] at hi hlo
    refine sliceAt_loS (by rw [row75]) row97 (by omega) (by omega) ?_
    simp only [vcs, eqV, nilV, Option.map_some, Nat.mul_one, implies_true, true_and, and_true, and_self]
    rw [if_neg (by omega)]
    simp only [Option.map_some, addr_add, Nat.zero_add, Int.toNat_natCast]
    have hCn : xs.length * 3 ≤ C'.size := by rw [hCs]; exact hr.2.1
    refine clear_S (by rw [row75]) row97 hb (by omega) (show i * 3 + (xs.length - i) * 3 ≤ C'.size by omega) (by intro v hv; change v ∈ [Value.int .u16 0, .int .u32 0, .slice none 0 0] at hv; simp at hv; rcases hv with rfl | rfl | rfl <;> rfl) (show 0 < 3 by omega) fun w36 C36 hb36 hs36 ht36 hf36 => ?_
    refine sliceAt_hiS (by rw [row75]) row97 (by omega) (by omega) ?_
    simp only [vcs, eqV, nilV, Option.map_some, Nat.mul_one, implies_true, true_and, and_true, and_self]
    rw [if_neg (by omega)]
    simp only [Option.map_some, addr_add, Nat.zero_add, Int.toNat_natCast]
    refine ⟨by rw [hi], hst _ _ _ hIj ⟨_, hb36⟩ hf36, hF.trans' hf36 fun i _ h => .inr ⟨h, hne⟩, fun _ => ⟨C36, by omega, hb36, ?_, ?_⟩⟩
    · rw [← hi]; omega
    · intro m y _ _ hy
      have hm := (List.getElem?_eq_some_iff.1 hy).1
      rw [← hi] at hm
      have hmi : m * 3 + 3 ≤ i * 3 := by omega
      rw [← hlo m y hy]
      have e : ∀ L : List Value, (L.drop (m * 3)).take 3 = ((L.take (i * 3)).drop (m * 3)).take 3 := fun L => by
        rw [List.drop_take, List.take_take, Nat.min_eq_left (by omega)]
      rw [e C36.toList, ht36, ← e]
end
section
variable {α : Type} {xs : List α} {ad : α → Addr} {p : α → Bool} {ap : Option Addr} {c g f : Nat} {caps : List Value} {J : World → Prop} {C : Array Value}
def ptr1 (ad : α → Addr) (x : α) : List Value := [.pointer (some (ad x))]
theorem RowIn.cell1 {g : Nat} {t : TypeId} {j0 j1 j : Nat} {x : α} (h : RowIn w g t (ptr1 ad) 1 j0 j1 xs C) (hj0 : j0 ≤ j) (hj1 : j < j1) (hx : xs[j]? = some x) : w.cell? ⟨g, j, none⟩ = some (.pointer (some (ad x))) := by
  have hr := h.read hj0 hj1 hx
  rw [Nat.mul_one] at hr
  have := (cellsAt_length hr).2 0 (.pointer (some (ad x))) rfl
  rwa [addr_add, Nat.add_zero] at this
set_option maxRecDepth 20000 in
theorem index71_c (hap : xs ≠ [] → ap = some ⟨g, 0, none⟩) (hrow : xs ≠ [] → RowIn w g 98 (ptr1 ad) 1 0 xs.length xs C) (hlen : xs.length ≤ 1000000)
    (hI : ∀ x ∈ xs, callV Tryd.prog f (.pointer (some (ad x)) :: caps) w fun v W' => v = .bool (p x) ∧ W' = w) :
    callV Tryd.prog 71 [.slice ap xs.length c, .func (.func f) #[] caps.toArray] w fun v w' => w' = w ∧
      ((∃ (j : Nat) (x : α), v = .int .i64 j ∧ xs[j]? = some x ∧ p x = true ∧ (∀ y ∈ xs.take j, p y = false)) ∨ (v = .int .i64 (-1) ∧ (∀ y ∈ xs, p y = false))) := by
  refine vc71 ap xs.length c _ w _ ?_
  refine ⟨fun u w' => ∃ j : Nat, j ≤ xs.length ∧ u 8 = .int .i64 j ∧ (∀ y ∈ xs.take j, p y = false) ∧ w' = w, fun u _ => xs.length - (intOf (u 8)).toNat, ⟨0, by omega, rfl, by simp, rfl⟩, ?_⟩
  rintro u w ⟨j, hj, h8, hp, rfl⟩
  change u 8 = _ at h8
  simp only [h8, vcs, eqV, nilV, Option.map_some, Nat.mul_one, implies_true, true_and, and_true, and_self]
  refine br_dec (fun hjn => ?_) (fun hjn => ?_)
  · obtain ⟨x, hx⟩ : ∃ x, xs[j]? = some x := ⟨xs[j]'(by omega), by simp⟩
    have hne : xs ≠ [] := by rintro rfl; simp at hx
    have hr := hrow hne
    rw [hap hne]
    simp only [addr_add, Nat.zero_add, Int.toNat_natCast, Nat.mul_one, hr.cell1 (Nat.zero_le _) (show j < xs.length by omega) hx, vcs, eqV, nilV, Option.map_some, Nat.mul_one, implies_true, true_and, and_true, and_self]
    refine ⟨by omega, ?_⟩
    simp only [List.nil_append, callF_func, List.singleton_append, vcs, eqV, nilV, Option.map_some, Nat.mul_one, implies_true, true_and, and_true, and_self]
    refine (hI x (List.mem_of_getElem? hx)).mono ?_
    rintro _ w14 ⟨rfl, rfl⟩
    simp only [vcs, eqV, nilV, Option.map_some, Nat.mul_one, implies_true, true_and, and_true, and_self]
    cases hpx : p x with
    | true =>
      simp only [vcs, eqV, nilV, Option.map_some, Nat.mul_one, implies_true, true_and, and_true, and_self]
      exact .inl ⟨j, x, rfl, hx, hpx, hp⟩
    | false =>
      simp only [vcs, eqV, nilV, Option.map_some, Nat.mul_one, implies_true, true_and, and_true, and_self]
      rw [show IntKind.i64.wrap ((j : Int) + 1) = (j : Int) + 1 from w64 (by omega)]
      refine ⟨⟨j + 1, by omega, rfl, ?_, rfl⟩, ?_⟩
      · rw [List.take_add_one, hx]
        intro y hy
        simp only [List.mem_append, Option.mem_toList, Option.mem_def, Option.some.injEq] at hy
        rcases hy with hy | rfl
        · exact hp y hy
        · exact hpx
      · show xs.length - ((j : Int) + 1).toNat < xs.length - (j : Int).toNat; omega
  · have : j = xs.length := by omega
    subst this
    rw [List.take_length] at hp
    exact .inr hp
set_option maxRecDepth 20000 in
set_option maxHeartbeats 1000000 in
theorem delete45_c (hap : xs ≠ [] → ap = some ⟨g, 0, none⟩) (hrow : xs ≠ [] → RowIn w g 98 (ptr1 ad) 1 0 xs.length xs C) (hlen : xs.length ≤ 1000000) (hcap : xs.length ≤ c)
    (hst : ∀ W W', J W → Fm (fun i => i = g) W W' → J W')
    (hI : ∀ x ∈ xs, ∀ W, J W → callV Tryd.prog f (.pointer (some (ad x)) :: caps) W fun v W' => v = .bool (p x) ∧ W' = W) (h0 : J w) :
    callV Tryd.prog 45 [.slice ap xs.length c, .func (.func f) #[] caps.toArray] w fun v w' => v = .slice ap (xs.filter fun x => !p x).length c ∧ Fm (fun i => i = g ∧ xs ≠ []) w w' ∧
      (xs ≠ [] → ∃ C', C'.size = C.size ∧ RowIn w' g 98 (ptr1 ad) 1 0 xs.length (xs.filter fun x => !p x) C') := by
  refine vc45 ap xs.length c _ w _ ?_
  refine (index71_c hap hrow hlen fun x hx => hI x hx w h0).mono ?_
  rintro _ w ⟨rfl, h⟩
  rcases h with ⟨j0, x0, rfl, hx0, hp0, hpre⟩ | ⟨rfl, hall⟩
  case inr =>
    simp only [vcs, eqV, nilV, Option.map_some, Nat.mul_one, implies_true, true_and, and_true, and_self]
    refine br_dec (fun _ => ?_) (fun h => absurd trivial h)
    rw [keep_none hall]
    exact ⟨rfl, Fm.refl _ _, fun hne => ⟨C, rfl, hrow hne⟩⟩
  have hne : xs ≠ [] := by rintro rfl; simp at hx0
  have hr := hrow hne
  have h3 : ∀ x, (ptr1 ad x).length = 1 := fun _ => rfl
  have hj0 : j0 < xs.length := (List.getElem?_eq_some_iff.1 hx0).1
  obtain rfl := hap hne
  simp only [vcs, eqV, nilV, Option.map_some, Nat.mul_one, implies_true, true_and, and_true, and_self]
  refine br_dec (fun h => by omega) (fun _ => ?_)
  rw [show IntKind.i64.wrap ((j0 : Int) + 1) = ((j0 + 1 : Nat) : Int) from (w64 (by omega)).trans (by omega)]
  have hk0 : (xs.take j0).filter (fun x => !p x) = xs.take j0 := keep_none hpre
  have hk1 : (xs.take (j0 + 1)).filter (fun x => !p x) = xs.take j0 := by rw [keep_take hx0, hk0, hp0]; simp
  have hgz : g < w.heap.size := lt_of_blk hr.1
  have hr2 : ∀ m x, m < xs.length → xs[m]? = some x → (C.toList.drop m).take 1 = ptr1 ad x := fun m x hm hx => by
    have := hr.2.2 m x (Nat.zero_le _) hm hx
    rwa [Nat.mul_one] at this
  refine ⟨fun u w' => ∃ (i j : Nat) (C' : Array Value), u 5 = .int .i64 i ∧ u 6 = .int .i64 j ∧ i < j ∧ j ≤ xs.length ∧ i = ((xs.take j).filter fun x => !p x).length ∧ J w' ∧ Fm (fun i => i = g) w w' ∧
      w'.heap[g]? = some (.cells C' 98 (0, 0)) ∧ C'.size = C.size ∧ (∀ m x, ((xs.take j).filter fun x => !p x)[m]? = some x → (C'.toList.drop m).take 1 = ptr1 ad x) ∧ (∀ m x, j ≤ m → xs[m]? = some x → (C'.toList.drop m).take 1 = ptr1 ad x),
    fun u _ => xs.length - (intOf (u 6)).toNat, ?_, ?_⟩
  · refine ⟨j0, j0 + 1, C, rfl, rfl, by omega, by omega, by rw [hk1, List.length_take]; omega, h0, Fm.refl _ _, hr.1, rfl, ?_, fun m x hm hx => hr2 m x (List.getElem?_eq_some_iff.1 hx).1 hx⟩
    intro m x hx
    rw [hk1] at hx
    have hm := (List.getElem?_eq_some_iff.1 hx).1
    rw [List.length_take] at hm
    rw [List.getElem?_take_of_lt (by omega)] at hx
    exact hr2 m x (by omega) hx
  rintro u w6 ⟨i, j, C', h5, h6, hij, hjn, hi, hJ, hF, hb, hCs, hlo, hhi⟩
  change u 5 = _ at h5
  change u 6 = _ at h6
  simp only [h5, h6, vcs, eqV, nilV, Option.map_some, Nat.mul_one, implies_true, true_and, and_true, and_self]
  have hCn : xs.length * 1 ≤ C'.size := by rw [hCs]; exact hr.2.1
  refine br_dec (fun hlt => ?_) (fun hge => ?_)
  · obtain ⟨x, hx⟩ : ∃ x, xs[j]? = some x := ⟨xs[j]'(by omega), by simp⟩
    refine ⟨by omega, ?_⟩
    simp only [addr_add, Nat.zero_add, Int.toNat_natCast]
    have hcj : w6.cell? ⟨g, j, none⟩ = some (.pointer (some (ad x))) := by
      have h := hhi j x (Nat.le_refl _) hx
      refine cellOf hb ?_
      have h0 := congrArg (·[0]?) h
      simp only [List.getElem?_take_of_lt (show 0 < 1 by omega), List.getElem?_drop, Nat.add_zero, ptr1, List.getElem?_cons_zero] at h0
      simpa using h0
    simp only [hcj, vcs, eqV, nilV, Option.map_some, Nat.mul_one, implies_true, true_and, and_true, and_self]
    simp only [List.nil_append, callF_func, List.singleton_append]
    refine (hI x (List.mem_of_getElem? hx) w6 hJ).mono ?_
    rintro _ w6 ⟨rfl, rfl⟩
    simp only [vcs, eqV, nilV, Option.map_some, Nat.mul_one, implies_true, true_and, and_true, and_self]
    cases hpx : p x with
    | true =>
      simp only [vcs, eqV, nilV, Option.map_some, Nat.mul_one, implies_true, true_and, and_true, and_self, Bool.not_true]
      rw [show IntKind.i64.wrap ((j : Int) + 1) = ((j + 1 : Nat) : Int) from (w64 (by omega)).trans (by omega)]
      have hk : (xs.take (j + 1)).filter (fun x => !p x) = (xs.take j).filter (fun x => !p x) := by rw [keep_take hx, hpx]; simp
      refine ⟨⟨i, j + 1, C', rfl, rfl, by omega, by omega, by rw [hk]; exact hi, hJ, hF, hb, hCs, by rw [hk]; exact hlo, fun m y hm hy => hhi m y (by omega) hy⟩, ?_⟩
      show xs.length - ((j + 1 : Nat) : Int).toNat < xs.length - (j : Int).toNat
      omega
    | false =>
      simp only [vcs, eqV, nilV, Option.map_some, Nat.mul_one, implies_true, true_and, and_true, and_self, Bool.not_false]
      refine ⟨by omega, ?_⟩
      refine stC_at hb (by simp; omega) (by simp [Value.oneCell']) fun w25 hb25 hf25 => ?_
      rw [show IntKind.i64.wrap ((j : Int) + 1) = ((j + 1 : Nat) : Int) from (w64 (by omega)).trans (by omega), show IntKind.i64.wrap ((i : Int) + 1) = ((i + 1 : Nat) : Int) from (w64 (by omega)).trans (by omega)]
      have hk : (xs.take (j + 1)).filter (fun x => !p x) = (xs.take j).filter (fun x => !p x) ++ [x] := by rw [keep_take hx, hpx]; simp
      have hCl : i * 1 + 1 ≤ C'.toList.length := by simp; omega
      have hb25' : w25.heap[g]? = some (.cells (C'.toList.take (i * 1) ++ ptr1 ad x ++ C'.toList.drop (i * 1 + 1)).toArray 98 (0, 0)) := by rw [Nat.mul_one]; exact hb25
      refine ⟨⟨i + 1, j + 1, _, rfl, rfl, by omega, by omega, by rw [hk, List.length_append, ← hi]; rfl, hst _ _ hJ hf25, hF.trans hf25, hb25', ?_, ?_, ?_⟩, ?_⟩
      · simp [ptr1]; omega
      · intro m y hy
        rw [hk] at hy
        by_cases hm : m < i
        · rw [List.getElem?_append_left (by omega)] at hy
          have := mid_other (m := m) hCl (h3 x) (.inl hm)
          rw [Nat.mul_one m] at this
          exact this.trans (hlo m y hy)
        · have hml := (List.getElem?_eq_some_iff.1 hy).1
          rw [List.length_append, ← hi] at hml
          obtain rfl : m = i := by simp at hml; omega
          rw [List.getElem?_append_right (by omega), ← hi] at hy
          simp at hy
          subst hy
          have := mid_same hCl (h3 x)
          rw [Nat.mul_one m] at this
          rw [Nat.mul_one m]
          exact this
      · intro m y hm hy
        have := mid_other (m := m) hCl (h3 x) (.inr (by omega))
        rw [Nat.mul_one m] at this
        exact this.trans (hhi m y (by omega) hy)
      · show xs.length - ((j + 1 : Nat) : Int).toNat < xs.length - (j : Int).toNat
        omega
  · have hj : j = xs.length := by omega
    subst hj
    rw [List.take_length] at hi hlo
    refine sliceAt_loS (by rw [row74]) row98 (by omega) (by omega) ?_
    simp only [vcs, eqV, nilV, Option.map_some, Nat.mul_one, implies_true, true_and, and_true, and_self]
    rw [if_neg (by omega)]
    simp only [Option.map_some, addr_add, Nat.zero_add, Int.toNat_natCast, Nat.mul_one]
    refine clear_S (by rw [row74]) row98 hb (by omega) (show i + (xs.length - i) * 1 ≤ C'.size by omega) (by intro v hv; change v ∈ [Value.pointer none] at hv; simp at hv; subst hv; rfl) (show 0 < 1 by omega) fun w36 C36 hb36 hs36 ht36 hf36 => ?_
    refine sliceAt_hiS (by rw [row74]) row98 (by omega) (by omega) ?_
    simp only [vcs, eqV, nilV, Option.map_some, Nat.mul_one, implies_true, true_and, and_true, and_self]
    rw [if_neg (by omega)]
    simp only [Option.map_some, addr_add, Nat.zero_add, Int.toNat_natCast]
    refine ⟨by rw [hi], (hF.trans hf36).mono fun i _ h => ⟨h, hne⟩, fun _ => ⟨C36, by omega, hb36, ?_, ?_⟩⟩
    · rw [← hi]; omega
    · intro m y _ _ hy
      have hm := (List.getElem?_eq_some_iff.1 hy).1
      rw [← hi] at hm
      have hmi : m * 1 + 1 ≤ i := by omega
      rw [← hlo m y hy, Nat.mul_one]
      have e : ∀ L : List Value, (L.drop m).take 1 = ((L.take i).drop m).take 1 := fun L => by
        rw [List.drop_take, List.take_take, Nat.min_eq_left (by omega)]
      rw [e C36.toList, ht36, ← e]
end
end Go.Proofs.YtipikchkbmgloaaDoor
namespace Go.Proofs.YtipikchkbmgloaaDoor
set_option linter.unusedSimpArgs false
set_option linter.unusedVariables false
open Go Go.RowKit VC
variable {w : World}
structure Ent where
  seq : Nat
  now : Nat
  ids : List Nat
structure Ch where
  next : Nat
  pushed : Nat
  wait : List (Nat × Msg)
  sent : List Ent
  win : Win
  rtt : Nat
  timed : Bool
  heard : Nat
def newC : Ch := ⟨0, 0, [], [], ⟨false, 0, 0⟩, 0, false, 0⟩
def pushC (c : Ch) (m : Msg) : Int × Ch :=
  if rightM m = false then (1, c)
  else if c.wait.length = 64 then (5, c)
  else (0, { c with wait := c.wait ++ [(c.pushed, m)], pushed := c.pushed + 1 })
def packDg (c : Ch) (l : List Msg) : Dg := ⟨c.next, c.win.any, if c.win.any then c.win.last else 0, if c.win.any then c.win.bits else 0, l⟩
def fitN (d : Dg) : List Msg → Nat
  | [] => 0
  | m :: ms => if (encD { d with list := d.list ++ [m] }).2 = 0 then fitN { d with list := d.list ++ [m] } ms + 1 else 0
def packC (c : Ch) (l : List Msg) (now : Nat) : (List Int × Int) × Ch :=
  if (encD (packDg c l)).2 ≠ 0 then (([], (encD (packDg c l)).2), c)
  else (((encD { packDg c l with list := l ++ (c.wait.map (·.2)).take (fitN (packDg c l) (c.wait.map (·.2))) }).1, 0),
    { c with sent := c.sent ++ [⟨c.next, now, (c.wait.map (·.1)).take (fitN (packDg c l) (c.wait.map (·.2)))⟩], next := (c.next + 1) % 65536 })
def goneE (d : Dg) (e : Ent) : Bool := d.any && ackW d.last d.bits e.seq
def tookN (now then' : Nat) : Nat := if then' < now then min (now - then') 1000 else 0
def stepE (d : Dg) (now : Nat) (s : Nat × Bool) (e : Ent) : Nat × Bool :=
  if goneE d e then (if s.2 then (7 * s.1 + tookN now e.now + 4) / 8 else tookN now e.now, true) else s
def unpackC (c : Ch) (ys : List Int) (now : Nat) : (List Msg × Int) × Ch :=
  if (decD ys).2 ≠ 0 then (([], (decD ys).2), c)
  else if (accW c.win (decD ys).1.seq).1 = false then (([], 7), c)
  else (((decD ys).1.list, 0),
    { c with
      win := (accW c.win (decD ys).1.seq).2, heard := now,
      rtt := (c.sent.foldl (stepE (decD ys).1 now) (c.rtt, c.timed)).1, timed := (c.sent.foldl (stepE (decD ys).1 now) (c.rtt, c.timed)).2,
      sent := c.sent.filter fun e => !goneE (decD ys).1 e,
      wait := c.wait.filter fun x => !(c.sent.any fun e => goneE (decD ys).1 e && decide (x.1 ∈ e.ids)) })
theorem own_rowIn {α : Type} {enc : α → List Value} {k base t : Nat} {v : Value} {xs : List α} (hk : ∀ x, (enc x).length = k) (h : w.ownsRow base t k v xs.length (xs.flatMap enc)) (hne : xs ≠ []) :
    ∃ g cap C, v = .slice (some ⟨g, 0, none⟩) xs.length cap ∧ base ≤ g ∧ RowIn w g t enc k 0 xs.length xs C ∧ xs.length ≤ cap ∧ cap ≤ maxLen ∧ C.size = cap * k := by
  rcases h.2 with ⟨rfl, h0⟩ | ⟨g, cap, C, rfl, hg, hb, hc, hm, hs, ht⟩
  · exact absurd (List.length_eq_zero_iff.1 h0) hne
  · refine ⟨g, cap, C, rfl, hg, ⟨hb, by rw [hs]; exact Nat.mul_le_mul_right _ hc, fun j x _ hj hx => ?_⟩, hc, hm, hs⟩
    have hle : (j + 1) * k ≤ xs.length * k := Nat.mul_le_mul_right _ hj
    rw [Nat.succ_mul] at hle
    have e : (C.toList.drop (j * k)).take k = ((C.toList.take (xs.length * k)).drop (j * k)).take k := by
      rw [List.drop_take, List.take_take, Nat.min_eq_left (by omega)]
    rw [e, ht]
    exact flatD_at hk xs j x hx
theorem rowIn_own {α : Type} {enc : α → List Value} {k base t g cap : Nat} {xs : List α} {C : Array Value} {n : Nat} (hk : ∀ x, (enc x).length = k) (h : RowIn w g t enc k 0 n xs C) (hn : xs.length ≤ n) (hb : base ≤ g) (hc : xs.length ≤ cap) (hm : cap ≤ maxLen) (hs : C.size = cap * k) :
    w.ownsRow base t k (.slice (some ⟨g, 0, none⟩) xs.length cap) xs.length (xs.flatMap enc) := by
  refine ⟨flatD_len hk xs, .inr ⟨g, cap, C, rfl, hb, h.1, hc, hm, hs, ?_⟩⟩
  have key : ∀ m, m ≤ xs.length → C.toList.take (m * k) = (xs.take m).flatMap enc := by
    intro m
    induction m with
    | zero => intro _; simp
    | succ m ih =>
      intro hm'
      obtain ⟨x, hx⟩ : ∃ x, xs[m]? = some x := ⟨xs[m]'(by omega), by simp⟩
      rw [List.take_add_one, hx, Option.toList_some, List.flatMap_append, Nat.succ_mul, List.take_add, ih (by omega), h.2.2 m x (Nat.zero_le _) (by omega) hx]
      simp
  have := key xs.length (Nat.le_refl _)
  rwa [List.take_length] at this
def adOf (bl : Nat → Nat) (i : Nat) : Addr := ⟨bl i, 0, none⟩
def ptrs (bl : Nat → Nat) (ids : List Nat) : List Value := ids.flatMap (ptr1 (adOf bl))
def entC (x : Ent × Value) : List Value := [.int .u16 x.1.seq, .int .u32 x.1.now, x.2]
def wtC (m : Msg) (q : Option Addr) (cq : Nat) (came : Bool) : List Value := msgC m q cq ++ [Value.bool came]
def OwnB (w : World) (F : Nat → Prop) (q : Option Addr) (cq : Nat) (ys : List Int) : Prop :=
  w.ownsRow 0 5 1 (.slice q ys.length cq) ys.length (ys.map (Value.int .u8)) ∧ ∀ i, (Value.slice q ys.length cq).ownBlock = some i → F i
structure HasAt (w : World) (F : Nat → Prop) (wv : Value) (bl : Nat → Nat) (n : Nat) (ids : List Nat) (h : Value) : Prop where
  own : w.ownsRow 0 98 1 h ids.length (ptrs bl ids)
  inF : ∀ i, h.ownBlock = some i → F i ∧ wv.ownBlock ≠ some i
  lt : ∀ i ∈ ids, i < n
structure Core (w : World) (F : Nat → Prop) (A : Nat) (bl : Nat → Nat) (mk : Nat → Bool) (c : Ch) (wv sv : Value) : Prop where
  box : BoxA w A (.int .u16 c.next) wv sv c.win (.int .i64 c.rtt) (.bool c.timed) (.int .u32 c.heard)
  fA : F A
  lt : ∀ i, F i → i < w.heap.size
  wok : Wok c.win
  next : c.next < 65536
  heard : c.heard < 4294967296
  rtt : c.rtt ≤ 1000
  own : w.ownsRow 0 98 1 wv c.wait.length (ptrs bl (c.wait.map (·.1)))
  fw : ∀ i, wv.ownBlock = some i → F i
  ids : ∀ i, i < c.pushed → F (bl i) ∧ ∃ cs : List Value, cs.length = 23 ∧ w.heap[bl i]? = some (.cells (cs ++ [Value.bool (mk i)]).toArray 100 (0, 0))
  inj : ∀ i j, i < c.pushed → j < c.pushed → bl i = bl j → i = j
  msgs : ∀ x ∈ c.wait, x.1 < c.pushed ∧ Rok x.2 ∧ ∃ q cq, w.heap[bl x.1]? = some (.cells (wtC x.2 q cq (mk x.1)).toArray 100 (0, 0)) ∧ OwnB w F q cq x.2.bytes
  many : c.wait.length ≤ 64
structure SentAt (w : World) (F : Nat → Prop) (bl : Nat → Nat) (n : Nat) (es : List Ent) (wv sv : Value) (hs : List Value) : Prop where
  len : hs.length = es.length
  own : w.ownsRow 0 97 3 sv es.length ((es.zip hs).flatMap entC)
  fs : ∀ i, sv.ownBlock = some i → F i
  has : ∀ (j : Nat) (e : Ent) (h : Value), es[j]? = some e → hs[j]? = some h → HasAt w F wv bl n e.ids h
  rng : ∀ e ∈ es, e.seq < 65536 ∧ e.now < 4294967296
def ChAt (w : World) (F : Nat → Prop) (A : Nat) (c : Ch) : Prop :=
  ∃ bl mk wv sv hs, Core w F A bl mk c wv sv ∧ SentAt w F bl c.pushed c.sent wv sv hs ∧ ∀ x ∈ c.wait, mk x.1 = false
theorem HasAt.keep {w w' : World} {F S : Nat → Prop} {wv : Value} {bl : Nat → Nat} {n : Nat} {ids : List Nat} {h : Value} (H : HasAt w F wv bl n ids h) (f : Fm S w w') (hS : ∀ i c, w.heap[i]? = some (.cells c 98 (0, 0)) → F i → wv.ownBlock ≠ some i → ¬ S i) : HasAt w' F wv bl n ids h := by
  obtain ⟨h1, h2, h3⟩ := H
  refine ⟨f.owns h1 fun i hi => ?_, h2, h3⟩
  obtain ⟨_, cur, hc⟩ := own_block h1 hi
  exact hS i _ hc (h2 i hi).1 (h2 i hi).2
theorem OwnB.keep {w w' : World} {F S : Nat → Prop} {q : Option Addr} {cq : Nat} {ys : List Int} (H : OwnB w F q cq ys) (f : Fm S w w') (hS : ∀ i c, w.heap[i]? = some (.cells c 5 (0, 0)) → F i → ¬ S i) : OwnB w' F q cq ys := by
  refine ⟨f.owns H.1 fun i hi => ?_, H.2⟩
  obtain ⟨_, cur, hc⟩ := own_block H.1 hi
  exact hS i _ hc (H.2 i hi)
theorem OwnB.mono {w : World} {F F' : Nat → Prop} {q : Option Addr} {cq : Nat} {ys : List Int} (H : OwnB w F q cq ys) (h : ∀ i, F i → F' i) : OwnB w F' q cq ys := ⟨H.1, fun i hi => h i (H.2 i hi)⟩
section
variable {F S : Nat → Prop} {A : Nat} {bl : Nat → Nat} {mk : Nat → Bool} {c : Ch} {wv sv : Value} {w' : World}
theorem Core.keep (h : Core w F A bl mk c wv sv) (f : Fm S w w') (hS : ∀ i C t, w.heap[i]? = some (.cells C t (0, 0)) → F i → t = 79 ∨ t = 98 ∧ wv.ownBlock = some i ∨ t = 100 ∨ t = 5 → ¬ S i) : Core w' F A bl mk c wv sv := by
  refine { h with box := f.keep h.box (hS A _ _ h.box h.fA (.inl rfl)), lt := fun i hi => Nat.lt_of_lt_of_le (h.lt i hi) f.size, own := f.owns h.own fun i hi => ?_, ids := fun i hi => ?_, msgs := fun x hx => ?_ }
  · obtain ⟨_, cur, hc⟩ := own_block h.own hi
    exact hS i _ _ hc (h.fw i hi) (.inr (.inl ⟨rfl, hi⟩))
  · obtain ⟨h1, cs, h2, h3⟩ := h.ids i hi
    exact ⟨h1, cs, h2, f.keep h3 (hS _ _ _ h3 h1 (.inr (.inr (.inl rfl))))⟩
  · obtain ⟨h1, h2, q, cq, h3, h4⟩ := h.msgs x hx
    exact ⟨h1, h2, q, cq, f.keep h3 (hS _ _ _ h3 (h.ids _ h1).1 (.inr (.inr (.inl rfl)))), h4.keep f fun i C hi hF => hS i C 5 hi hF (.inr (.inr (.inr rfl)))⟩
theorem Core.turn {c' : Ch} {sv' : Value} (h : Core w F A bl mk c wv sv) (f : Fm (fun i => i = A) w w') (hw : c'.wait = c.wait) (hp : c'.pushed = c.pushed) (hb : BoxA w' A (.int .u16 c'.next) wv sv' c'.win (.int .i64 c'.rtt) (.bool c'.timed) (.int .u32 c'.heard))
    (wok : Wok c'.win) (next : c'.next < 65536) (heard : c'.heard < 4294967296) (rtt : c'.rtt ≤ 1000) : Core w' F A bl mk c' wv sv' := by
  have hA := h.box
  have ne : ∀ {i C t}, w.heap[i]? = some (.cells C t (0, 0)) → t ≠ 79 → ¬ i = A := by
    rintro i C t hi ht rfl
    rw [hA] at hi; cases hi; exact ht rfl
  refine ⟨hb, h.fA, fun i hi => Nat.lt_of_lt_of_le (h.lt i hi) f.size, wok, next, heard, rtt, ?_, h.fw, ?_, ?_, ?_, ?_⟩
  · rw [hw]
    refine f.owns h.own fun i hi => ?_
    obtain ⟨_, cur, hc⟩ := own_block h.own hi
    exact ne hc (by decide)
  · rw [hp]
    intro i hi
    obtain ⟨h1, cs, h2, h3⟩ := h.ids i hi
    exact ⟨h1, cs, h2, f.keep h3 (ne h3 (by decide))⟩
  · rw [hp]; exact h.inj
  · rw [hw, hp]
    intro x hx
    obtain ⟨h1, h2, q, cq, h3, h4⟩ := h.msgs x hx
    exact ⟨h1, h2, q, cq, f.keep h3 (ne h3 (by decide)), h4.keep f fun i C hi _ => ne hi (by decide)⟩
  · rw [hw]; exact h.many
theorem Core.mark {k : Nat} {cs : List Value} (h : Core w F A bl mk c wv sv) (hk : k < c.pushed) (hcs : cs.length = 23) (hb : w.heap[bl k]? = some (.cells (cs ++ [Value.bool (mk k)]).toArray 100 (0, 0))) (f : Fm (fun i => i = bl k) w w')
    (hb' : w'.heap[bl k]? = some (.cells (cs ++ [Value.bool true]).toArray 100 (0, 0))) : Core w' F A bl (fun i => mk i || decide (i = k)) c wv sv := by
  have ne : ∀ {i C t}, w.heap[i]? = some (.cells C t (0, 0)) → t ≠ 100 → ¬ i = bl k := by
    rintro i C t hi ht rfl
    rw [hb] at hi; cases hi; exact ht rfl
  refine { h with box := f.keep h.box (ne h.box (by decide)), lt := fun i hi => Nat.lt_of_lt_of_le (h.lt i hi) f.size, own := f.owns h.own fun i hi => ?_, ids := fun i hi => ?_, msgs := fun x hx => ?_ }
  · obtain ⟨_, cur, hc⟩ := own_block h.own hi
    exact ne hc (by decide)
  · obtain ⟨h1, ds, h2, h3⟩ := h.ids i hi
    by_cases hik : i = k
    · subst hik
      exact ⟨h1, cs, hcs, by simpa using hb'⟩
    · refine ⟨h1, ds, h2, ?_⟩
      rw [decide_eq_false hik, Bool.or_false]
      exact f.keep h3 fun e => hik (h.inj i k hi hk e)
  · obtain ⟨h1, h2, q, cq, h3, h4⟩ := h.msgs x hx
    refine ⟨h1, h2, q, cq, ?_, h4.keep f fun i C hi _ => ne hi (by decide)⟩
    by_cases hik : x.1 = k
    · rw [hik] at h3 ⊢
      rw [hb] at h3
      have e : cs = msgC x.2 q cq := by
        have := congrArg (fun o => match o with | some (Obj.cells C _ _) => C.toList | _ => []) h3
        simp only [wtC, List.append_cancel_right_eq] at this
        exact this
      rw [hb', e]
      simp [wtC]
    · rw [decide_eq_false hik, Bool.or_false]
      exact f.keep h3 fun e => hik (h.inj _ k h1 hk e)
end
end Go.Proofs.YtipikchkbmgloaaDoor
namespace Go.Proofs.YtipikchkbmgloaaDoor
set_option linter.unusedSimpArgs false
set_option linter.unusedVariables false
open Go Go.RowKit VC
variable {w : World}
def FNew (F : Nat → Prop) (w w' : World) : Nat → Prop := fun i => F i ∨ w.heap.size ≤ i ∧ i < w'.heap.size
theorem new15_c : callV Tryd.prog 15 [] w fun v w' => v = .pointer (some ⟨w.heap.size, 0, none⟩) ∧ ChAt w' (FNew none' w w') w.heap.size newC ∧ Fm none' w w' := by
  refine vc15 w _ ?_
  refine allocC_of fun w1 hb1 hs1 hf1 => ?_
  refine ⟨rfl, ⟨fun i => i, fun _ => false, .slice none 0 0, .slice none 0 0, [], ?_, ?_, ?_⟩, hf1⟩
  · refine ⟨hb1, .inr ⟨Nat.le_refl _, by omega⟩, fun i hi => hi.elim (fun h => h.elim) (·.2), ⟨by decide, by decide⟩, by decide, by decide, by decide, World.ownsRow_nil _ _ _ _, (fun i hi => by cases hi), (fun i hi => by simp [newC] at hi), (fun i j hi => by simp [newC] at hi), (fun x hx => by simp [newC] at hx), by decide⟩
  · exact ⟨rfl, World.ownsRow_nil _ _ _ _, (fun i hi => by cases hi), (fun j e h he => by simp [newC] at he), fun e he => by simp [newC] at he⟩
  · intro x hx; simp [newC] at hx
section
variable {F : Nat → Prop} {A : Nat} {bl : Nat → Nat} {mk : Nat → Bool} {c : Ch} {wv sv : Value}
theorem Core.wvSl (h : Core w F A bl mk c wv sv) : ∃ p cp, wv = .slice p c.wait.length cp := by
  obtain ⟨p, cp, rfl, -⟩ := own_readS h.own
  exact ⟨p, cp, rfl⟩
theorem waits20_c (h : Core w F A bl mk c wv sv) : callV Tryd.prog 20 [.pointer (some ⟨A, 0, none⟩)] w fun v w' => v = .int .i64 c.wait.length ∧ w' = w := by
  refine vc20 _ w _ ?_
  obtain ⟨p, cp, rfl⟩ := h.wvSl
  have k : w.cell? ⟨A, 1, none⟩ = some (.slice p c.wait.length cp) := cellOf h.box rfl
  simp only [addr_add, Nat.zero_add, k, vcs, eqV, nilV, Option.map_some, Nat.mul_one, implies_true, true_and, and_true, and_self]
theorem rtt21_c (h : Core w F A bl mk c wv sv) : callV Tryd.prog 21 [.pointer (some ⟨A, 0, none⟩)] w fun v w' => v = .int .i64 c.rtt ∧ w' = w := by
  refine vc21 _ w _ ?_
  have k : w.cell? ⟨A, 6, none⟩ = some (.int .i64 c.rtt) := cellOf h.box rfl
  simp only [addr_add, Nat.zero_add, k, vcs, eqV, nilV, Option.map_some, Nat.mul_one, implies_true, true_and, and_true, and_self]
def sampN (s : Nat × Bool) (n : Nat) : Nat × Bool := (if s.2 then (7 * s.1 + n + 4) / 8 else n, true)
theorem sample70_c {n : Nat} (hn : n ≤ 1000) (h : Core w F A bl mk c wv sv) : callV Tryd.prog 70 [.pointer (some ⟨A, 0, none⟩), .int .i64 n] w fun v w' => v = .tuple #[] ∧
    Core w' F A bl mk { c with rtt := (sampN (c.rtt, c.timed) n).1, timed := true } wv sv ∧ Fm (fun i => i = A) w w' := by
  refine vc70 _ n w _ ?_
  have k6 : w.cell? ⟨A, 6, none⟩ = some (.int .i64 c.rtt) := cellOf h.box rfl
  have k7 : w.cell? ⟨A, 7, none⟩ = some (.bool c.timed) := cellOf h.box rfl
  simp only [addr_add, Nat.zero_add, k6, k7, vcs, eqV, nilV, Option.map_some, Nat.mul_one, implies_true, true_and, and_true, and_self]
  have hr := h.rtt
  cases ht : c.timed with
  | true =>
    simp only [vcs, eqV, nilV, Option.map_some, Nat.mul_one, implies_true, true_and, and_true, and_self]
    rw [show IntKind.i64.wrap (7 * (c.rtt : Int)) = ((7 * c.rtt : Nat) : Int) from (w64 (by omega)).trans (by omega), show IntKind.i64.wrap (((7 * c.rtt : Nat) : Int) + n) = ((7 * c.rtt + n : Nat) : Int) from (w64 (by omega)).trans (by omega),
      show IntKind.i64.wrap (((7 * c.rtt + n : Nat) : Int) + 4) = ((7 * c.rtt + n + 4 : Nat) : Int) from (w64 (by omega)).trans (by omega), Int.tdiv_eq_ediv_of_nonneg (by omega),
      show IntKind.i64.wrap (((7 * c.rtt + n + 4 : Nat) : Int) / 8) = (((7 * c.rtt + n + 4) / 8 : Nat) : Int) from (w64 (by omega)).trans (by omega)]
    refine stC_one h.box (by simp) rfl fun w4 hb4 hf4 => ?_
    refine stC_one hb4 (by simp) rfl fun w5 hb5 hf5 => ?_
    refine ⟨h.turn (hf4.trans hf5) rfl rfl ?_ h.wok h.next h.heard ?_, hf4.trans hf5⟩
    · show BoxA _ _ _ _ _ _ (.int .i64 (((if true = true then (7 * c.rtt + n + 4) / 8 else n) : Nat) : Int)) _ _
      rw [if_pos rfl]
      exact hb5
    · show (if true = true then (7 * c.rtt + n + 4) / 8 else n) ≤ 1000
      rw [if_pos rfl]; omega
  | false =>
    simp only [vcs, eqV, nilV, Option.map_some, Nat.mul_one, implies_true, true_and, and_true, and_self]
    refine stC_one h.box (by simp) rfl fun w4 hb4 hf4 => ?_
    refine stC_one hb4 (by simp) rfl fun w5 hb5 hf5 => ?_
    refine ⟨h.turn (hf4.trans hf5) rfl rfl ?_ h.wok h.next h.heard ?_, hf4.trans hf5⟩
    · exact hb5
    · exact hn
def Soft (A : Nat) (bl : Nat → Nat) (n : Nat) : Nat → Prop := fun i => i = A ∨ ∃ k, k < n ∧ i = bl k
theorem Core.soft (h : Core w F A bl mk c wv sv) {i : Nat} (hi : Soft A bl c.pushed i) : F i ∧ ∃ C t, w.heap[i]? = some (.cells C t (0, 0)) ∧ (t = 79 ∨ t = 100) := by
  rcases hi with rfl | ⟨k, hk, rfl⟩
  · exact ⟨h.fA, _, _, h.box, .inl rfl⟩
  · obtain ⟨h1, cs, h2, h3⟩ := h.ids k hk
    exact ⟨h1, _, _, h3, .inr rfl⟩
theorem Core.softno (h : Core w F A bl mk c wv sv) {i t : Nat} {C : Array Value} (hi : w.heap[i]? = some (.cells C t (0, 0))) (h1 : t ≠ 79) (h2 : t ≠ 100) : ¬ Soft A bl c.pushed i := fun hs => by
  obtain ⟨_, C', t', hc, ht⟩ := h.soft hs
  rw [hi] at hc; cases hc
  rcases ht with rfl | rfl
  · exact h1 rfl
  · exact h2 rfl
theorem came46_c {k : Nat} (h : Core w F A bl mk c wv sv) (hk : k < c.pushed) : callV Tryd.prog 46 [.pointer (some (adOf bl k))] w fun v w' => v = .bool (mk k) ∧ w' = w := by
  refine vc46 _ w _ ?_
  obtain ⟨h1, cs, h2, h3⟩ := h.ids k hk
  have hc : w.cell? ⟨bl k, 23, none⟩ = some (.bool (mk k)) := cellOf h3 (by simp [h2])
  simp only [adOf, addr_add, Nat.zero_add, hc, vcs, eqV, nilV, Option.map_some, Nat.mul_one, implies_true, true_and, and_true, and_self]
set_option maxRecDepth 20000 in
set_option maxHeartbeats 1000000 in
theorem came44_c {e : Ent} {hv : Value} {now : Nat} (h : Core w F A bl mk c wv sv) (hh : HasAt w F wv bl c.pushed e.ids hv) (hr : e.seq < 65536 ∧ e.now < 4294967296) (hnow : now < 4294967296) (hl : e.ids.length ≤ 1000000) :
    callV Tryd.prog 44 [.pointer (some ⟨A, 0, none⟩), .agg (entC (e, hv)).toArray, .int .u32 now] w fun v w' =>
      Core w' F A bl (fun i => mk i || decide (i ∈ e.ids)) { c with rtt := (sampN (c.rtt, c.timed) (tookN now e.now)).1, timed := true } wv sv ∧ Fm (Soft A bl c.pushed) w w' := by
  obtain ⟨p, cp, rfl, -, hread⟩ := own_readS hh.own
  refine vc44 _ e.seq e.now p e.ids.length cp now w _ ?_
  refine allocC_of fun w1 hb1 hs1 hf1 => ?_
  have k1 : w1.cell? ⟨w.heap.size, 1, none⟩ = some (.int .u32 e.now) := cellOf hb1 rfl
  simp only [k1, vcs, eqV, nilV, Option.map_some, Nat.mul_one, implies_true, true_and, and_true, and_self]
  have hc1 : Core w1 F A bl mk c wv sv := h.keep hf1 fun _ _ _ _ _ _ => id
  have loop : ∀ (w7 : World) (n : Nat), n ≤ 1000 → Core w7 F A bl mk { c with rtt := (sampN (c.rtt, c.timed) n).1, timed := true } wv sv → Fm (fun i => i = A) w1 w7 →
      rd (w7.cell? ⟨w.heap.size, 2, none⟩) fun v8 => isSl v8 fun o9 n10 n11 =>
      loopC (alist [(25, .int .i64 0)]) w7 fun u12 u13 => ∀ (u14 : Nat → Value) (w15 : World), u12 (alist [(25, u14 25)]) w15 → rd (orO (binV .lss (u14 25) (.int .i64 (n10 : Int))) none) fun v17 => isB v17 fun t18 =>
      br t18 (isInt (u14 25) fun k19 i20 => rd o9 fun a21 => (0 ≤ i20 ∧ i20 < (n10 : Int)) ∧ rd (w15.cell? (Addr.add a21 (Int.toNat i20))) fun v22 => isP v22 fun o23 => rd (nilChk (.pointer o23)) fun v24 =>
        isPtr v24 fun a25 => stC w15 (Addr.add a25 23) [.bool true] fun w26 => rd (orO (binV .add (u14 25) (.int .i64 1)) none) fun v27 => isK .i64 v27 fun i28 => again u12 u13 (alist [(25, .int .i64 i28)]) w26 (alist [(25, u14 25)]) w15)
      ((Core w15 F A bl (fun i => mk i || decide (i ∈ e.ids)) { c with rtt := (sampN (c.rtt, c.timed) n).1, timed := true } wv sv) ∧ Fm (Soft A bl c.pushed) w w15) := by
    intro w7 n hn hc7 hf7
    have hb7 : w7.heap[w.heap.size]? = some (.cells #[.int .u16 e.seq, .int .u32 e.now, .slice p e.ids.length cp] 97 (0, 0)) := hf7.keep hb1 (by have := h.lt A h.fA; omega)
    have k2 : w7.cell? ⟨w.heap.size, 2, none⟩ = some (.slice p e.ids.length cp) := cellOf hb7 rfl
    simp only [k2, vcs, eqV, nilV, Option.map_some, Nat.mul_one, implies_true, true_and, and_true, and_self]
    have hF7 : Fm (Soft A bl c.pushed) w w7 := hf1.none.trans (hf7.mono fun i _ h => .inl h)
    refine ⟨fun u w' => ∃ j : Nat, j ≤ e.ids.length ∧ u 25 = .int .i64 j ∧ Core w' F A bl (fun i => mk i || decide (i ∈ e.ids.take j)) { c with rtt := (sampN (c.rtt, c.timed) n).1, timed := true } wv sv ∧ Fm (Soft A bl c.pushed) w w', fun u _ => e.ids.length - (intOf (u 25)).toNat, ⟨0, by omega, rfl, by simpa using hc7, hF7⟩, ?_⟩
    rintro u w15 ⟨j, hj, h25, hcj, hF⟩
    change u 25 = _ at h25
    simp only [h25, vcs, eqV, nilV, Option.map_some, Nat.mul_one, implies_true, true_and, and_true, and_self]
    refine br_dec (fun hlt => ?_) (fun hge => ?_)
    · obtain ⟨k, hk⟩ : ∃ k, e.ids[j]? = some k := ⟨e.ids[j]'(by omega), by simp⟩
      have hkp : (ptrs bl e.ids)[j]? = some (.pointer (some ⟨bl k, 0, none⟩)) := by
        have : ptrs bl e.ids = e.ids.map fun i => Value.pointer (some (adOf bl i)) := by
          unfold ptrs ptr1
          induction e.ids with
          | nil => rfl
          | cons x l ih => simp [List.flatMap_cons, ih]
        rw [this, List.getElem?_map, hk]; rfl
      obtain ⟨g, rfl, -, hgo, hcell⟩ := hread j _ hkp
      have hkl : k < c.pushed := hh.lt k (List.mem_of_getElem? hk)
      have hgF := hh.inF g hgo
      obtain ⟨_, cur, hgb⟩ := own_block hh.own hgo
      have hcell15 : w15.cell? ⟨g, j, none⟩ = some (.pointer (some ⟨bl k, 0, none⟩)) := hF.cell hcell (h.softno hgb (by decide) (by decide))
      simp only [addr_add, Nat.zero_add, Int.toNat_natCast, hcell15, vcs, eqV, nilV, Option.map_some, Nat.mul_one, implies_true, true_and, and_true, and_self]
      refine ⟨by omega, ?_⟩
      obtain ⟨h1, cs, h2, h3⟩ := hcj.ids k hkl
      refine stC_one h3 (by simp [h2]) rfl fun w26 hb26 hf26 => ?_
      have hb26' : w26.heap[bl k]? = some (.cells (cs ++ [Value.bool true]).toArray 100 (0, 0)) := by
        rw [hb26]
        congr 2
        apply Array.ext'
        simp only [Array.toList_setIfInBounds]
        rw [List.set_append_right _ _ (by omega), h2]
        rfl
      have hm := hcj.mark hkl h2 h3 hf26 hb26'
      rw [show IntKind.i64.wrap ((j : Int) + 1) = (j : Int) + 1 from w64 (by omega)]
      refine ⟨⟨j + 1, by omega, rfl, ?_, hF.trans' hf26 fun i _ e => .inr ⟨k, hkl, e⟩⟩, ?_⟩
      · have e1 : (fun i => mk i || decide (i ∈ e.ids.take (j + 1))) = fun i => (mk i || decide (i ∈ e.ids.take j)) || decide (i = k) := by
          funext i
          rw [List.take_add_one, hk, Bool.or_assoc]
          congr 1
          simp
        rw [e1]; exact hm
      · show e.ids.length - ((j : Int) + 1).toNat < e.ids.length - (j : Int).toNat; omega
    · have : j = e.ids.length := by omega
      subst this
      rw [List.take_length] at hcj
      exact ⟨hcj, hF⟩
  refine br_dec (fun hlt => ?_) (fun hge => ?_)
  · have e1 : IntKind.i64.wrap (min (IntKind.u32.wrap ((now : Int) - (e.now : Int))) 1000) = ((tookN now e.now : Nat) : Int) := by
      rw [show IntKind.u32.wrap ((now : Int) - e.now) = ((now - e.now : Nat) : Int) from (w32 (by omega)).trans (by omega), w64 (by omega)]
      unfold tookN
      rw [if_pos (by omega)]
      omega
    rw [e1]
    have ht : tookN now e.now ≤ 1000 := by unfold tookN; split <;> omega
    refine (sample70_c ht hc1).mono ?_
    rintro _ w7 ⟨rfl, hc7, hf7⟩
    exact loop w7 _ ht hc7 hf7
  · have e1 : tookN now e.now = 0 := by unfold tookN; rw [if_neg (by omega)]
    rw [e1]
    refine (sample70_c (n := 0) (by omega) hc1).mono ?_
    rintro _ w7 ⟨rfl, hc7, hf7⟩
    exact loop w7 _ (by omega) hc7 hf7
end
end Go.Proofs.YtipikchkbmgloaaDoor
namespace Go.Proofs.YtipikchkbmgloaaDoor
set_option linter.unusedSimpArgs false
set_option linter.unusedVariables false
open Go Go.RowKit VC
variable {w : World}
section
variable {F : Nat → Prop} {A : Nat} {bl : Nat → Nat} {mk : Nat → Bool} {c : Ch} {wv sv : Value}
theorem del46_c {k : Nat} {b : Bool} {cs : List Value} (h2 : cs.length = 23) (h3 : w.heap[bl k]? = some (.cells (cs ++ [Value.bool b]).toArray 100 (0, 0))) : callV Tryd.prog 46 [.pointer (some (adOf bl k))] w fun v w' => v = .bool b ∧ w' = w := by
  refine vc46 _ w _ ?_
  have hc : w.cell? ⟨bl k, 23, none⟩ = some (.bool b) := cellOf h3 (by simp [h2])
  simp only [adOf, addr_add, Nat.zero_add, hc, vcs, eqV, nilV, Option.map_some, Nat.mul_one, implies_true, true_and, and_true, and_self]
theorem stepE_eq (d : Dg) (now : Nat) (s : Nat × Bool) (e : Ent) : stepE d now s e = if goneE d e then ((sampN s (tookN now e.now)).1, true) else s := rfl
structure Clo (w : World) (D N0 N2 A now : Nat) (d : Dg) (lv : Value) : Prop where
  d : w.heap[D]? = some (.cells #[.int .u16 d.seq, .bool d.any, .int .u16 d.last, .int .u32 d.bits, lv] 32 (0, 0))
  a : w.heap[N0]? = some (.cells #[.pointer (some ⟨A, 0, none⟩)] 43 (0, 0))
  n : w.heap[N2]? = some (.cells #[.int .u32 now] 23 (0, 0))
theorem Clo.keep {w' : World} {D N0 N2 A now : Nat} {d : Dg} {lv : Value} {S : Nat → Prop} (h : Clo w D N0 N2 A now d lv) (f : Fm S w w') (hS : ∀ i, i = D ∨ i = N0 ∨ i = N2 → ¬ S i) : Clo w' D N0 N2 A now d lv :=
  ⟨f.keep h.d (hS _ (.inl rfl)), f.keep h.a (hS _ (.inr (.inl rfl))), f.keep h.n (hS _ (.inr (.inr rfl)))⟩
theorem Clo.ty {D N0 N2 A now : Nat} {d : Dg} {lv : Value} (h : Clo w D N0 N2 A now d lv) {i : Nat} (hi : i = D ∨ i = N0 ∨ i = N2) : ∃ C t, w.heap[i]? = some (.cells C t (0, 0)) ∧ (t = 32 ∨ t = 43 ∨ t = 23) := by
  rcases hi with rfl | rfl | rfl
  · exact ⟨_, _, h.d, .inl rfl⟩
  · exact ⟨_, _, h.a, .inr (.inl rfl)⟩
  · exact ⟨_, _, h.n, .inr (.inr rfl)⟩
set_option maxRecDepth 20000 in
theorem del42_c {e : Ent} {hv lv : Value} {now D N0 N2 : Nat} {d : Dg} (h : Core w F A bl mk c wv sv) (hh : HasAt w F wv bl c.pushed e.ids hv) (hr : e.seq < 65536 ∧ e.now < 4294967296) (hnow : now < 4294967296) (hl : e.ids.length ≤ 1000000)
    (hd : d.bits < 4294967296) (hc : Clo w D N0 N2 A now d lv) :
    callV Tryd.prog 42 [.agg (entC (e, hv)).toArray, .pointer (some ⟨D, 0, none⟩), .pointer (some ⟨N0, 0, none⟩), .pointer (some ⟨N2, 0, none⟩)] w fun v w' => v = .bool (goneE d e) ∧
      Core w' F A bl (fun i => mk i || (goneE d e && decide (i ∈ e.ids))) { c with rtt := (stepE d now (c.rtt, c.timed) e).1, timed := (stepE d now (c.rtt, c.timed) e).2 } wv sv ∧ Fm (Soft A bl c.pushed) w w' := by
  have hh' := hh
  obtain ⟨p, cp, rfl, -, hread⟩ := own_readS hh.own
  refine vc42 e.seq e.now p e.ids.length cp ⟨D, 0, none⟩ ⟨N0, 0, none⟩ ⟨N2, 0, none⟩ w _ ?_
  refine allocC_of fun w1 hb1 hs1 hf1 => ?_
  have hc1 : Core w1 F A bl mk c wv sv := h.keep hf1 fun _ _ _ _ _ _ => id
  have hcl := hc.keep hf1 fun _ _ => id
  have k1 : w1.cell? ⟨D, 1, none⟩ = some (.bool d.any) := cellOf hcl.d rfl
  have k2 : w1.cell? ⟨D, 2, none⟩ = some (.int .u16 d.last) := cellOf hcl.d rfl
  have k3 : w1.cell? ⟨D, 3, none⟩ = some (.int .u32 d.bits) := cellOf hcl.d rfl
  have k4 : w1.cell? ⟨w.heap.size, 0, none⟩ = some (.int .u16 e.seq) := cellOf hb1 rfl
  simp only [addr_add, Nat.zero_add, k1, k2, k3, k4, vcs, eqV, nilV, Option.map_some, Nat.mul_one, implies_true, true_and, and_true, and_self]
  have hno : goneE d e = false → Core w1 F A bl (fun i => mk i || (goneE d e && decide (i ∈ e.ids))) { c with rtt := (stepE d now (c.rtt, c.timed) e).1, timed := (stepE d now (c.rtt, c.timed) e).2 } wv sv := by
    intro hg
    have e1 : (fun i => mk i || (goneE d e && decide (i ∈ e.ids))) = mk := by funext i; rw [hg]; simp
    have e2 : stepE d now (c.rtt, c.timed) e = (c.rtt, c.timed) := by rw [stepE_eq, hg]; rfl
    rw [e1, e2]
    exact hc1
  cases ha : d.any with
  | false =>
    simp only [Bool.not_false, vcs, eqV, nilV, Option.map_some, Nat.mul_one, implies_true, true_and, and_true, and_self]
    have hg : goneE d e = false := by unfold goneE; rw [ha]; rfl
    exact ⟨by rw [hg], hno hg, hf1.none⟩
  | true =>
    simp only [Bool.not_true, vcs, eqV, nilV, Option.map_some, Nat.mul_one, implies_true, true_and, and_true, and_self]
    refine (acked43_c hd).mono ?_
    rintro _ w1 ⟨rfl, rfl⟩
    simp only [vcs, eqV, nilV, Option.map_some, Nat.mul_one, implies_true, true_and, and_true, and_self]
    have hge : goneE d e = ackW d.last d.bits e.seq := by unfold goneE; rw [ha]; rfl
    rw [← hge]
    cases hg : goneE d e with
    | false =>
      simp only [Bool.not_false, vcs, eqV, nilV, Option.map_some, Nat.mul_one, implies_true, true_and, and_true, and_self]
      rw [hg] at hno
      exact ⟨hno rfl, hf1.none⟩
    | true =>
      simp only [Bool.not_true, vcs, eqV, nilV, Option.map_some, Nat.mul_one, implies_true, true_and, and_true, and_self]
      have k5 : w1.cell? ⟨N0, 0, none⟩ = some (.pointer (some ⟨A, 0, none⟩)) := cellOf hcl.a rfl
      have k6 : w1.cell? ⟨N2, 0, none⟩ = some (.int .u32 now) := cellOf hcl.n rfl
      have k7 : cellsAt w1 ⟨w.heap.size, 0, none⟩ 3 = some (entC (e, .slice p e.ids.length cp)) := cells_all hb1 rfl
      simp only [k5, k6, k7, vcs, eqV, nilV, Option.map_some, Nat.mul_one, implies_true, true_and, and_true, and_self]
      refine (came44_c hc1 (hh'.keep hf1 fun _ _ _ _ _ => id) hr hnow hl).mono ?_
      rintro v19 w19 ⟨hc19, hf19⟩
      refine ⟨?_, hf1.none.trans' hf19 fun _ _ h => h⟩
      rw [stepE_eq, hg, if_pos rfl]
      have e1 : (fun i => mk i || (true && decide (i ∈ e.ids))) = fun i => mk i || decide (i ∈ e.ids) := by funext i; simp
      rw [e1]
      exact hc19
theorem zip_fst_filter {β : Type} (q : Ent → Bool) : ∀ (es : List Ent) (hs : List β), hs.length = es.length → ((es.zip hs).filter fun x => q x.1).map (·.1) = es.filter q := by
  intro es
  induction es with
  | nil => intro hs _; simp
  | cons e es ih =>
    intro hs hl
    cases hs with
    | nil => simp at hl
    | cons h hs =>
      rw [List.zip_cons_cons, List.filter_cons, List.filter_cons]
      cases hq : q e with
      | true => simp [ih hs (by simpa using hl)]
      | false => simp [ih hs (by simpa using hl)]
theorem zip_unzip {α β : Type} : ∀ (l : List (α × β)), (l.map (·.1)).zip (l.map (·.2)) = l := by
  intro l
  induction l with
  | nil => rfl
  | cons x l ih => simp [ih]
theorem entC_len (x : Ent × Value) : (entC x).length = 3 := rfl
theorem ptrs_map (bl : Nat → Nat) (ws : List (Nat × Msg)) : ptrs bl (ws.map (·.1)) = ws.flatMap (ptr1 fun x => adOf bl x.1) := by
  unfold ptrs
  rw [List.flatMap_map]; rfl
def afterE (d : Dg) (now : Nat) (c : Ch) (es : List Ent) : Ch := { c with rtt := (es.foldl (stepE d now) (c.rtt, c.timed)).1, timed := (es.foldl (stepE d now) (c.rtt, c.timed)).2 }
def mkE (d : Dg) (mk : Nat → Bool) (es : List Ent) : Nat → Bool := fun i => mk i || es.any fun e => goneE d e && decide (i ∈ e.ids)
set_option maxRecDepth 20000 in
set_option maxHeartbeats 1000000 in
theorem del_sent {d : Dg} {now D N0 N2 : Nat} {lv : Value} {hs : List Value} (h : Core w F A bl mk c wv sv) (hS : SentAt w F bl c.pushed c.sent wv sv hs) (hd : d.bits < 4294967296) (hnow : now < 4294967296) (hc : Clo w D N0 N2 A now d lv)
    (hl : c.sent.length ≤ 1000000) (hids : ∀ e ∈ c.sent, e.ids.length ≤ 1000000) :
    callV Tryd.prog 41 [sv, .func (.func 42) #[] #[.pointer (some ⟨D, 0, none⟩), .pointer (some ⟨N0, 0, none⟩), .pointer (some ⟨N2, 0, none⟩)]] w fun v w' =>
      ∃ hs', Core w' F A bl (mkE d mk c.sent) (afterE d now c c.sent) wv sv ∧ SentAt w' F bl c.pushed (c.sent.filter fun e => !goneE d e) wv v hs' ∧ Clo w' D N0 N2 A now d lv ∧ Fm (fun i => F i ∧ ∃ C t, w.heap[i]? = some (.cells C t (0, 0)) ∧ (t = 79 ∨ t = 100 ∨ t = 97)) w w' ∧ v.ownBlock = sv.ownBlock := by
  obtain ⟨hlen, hown, hfs, hhas, hrng⟩ := hS
  obtain ⟨es, hes⟩ : ∃ es, es = c.sent := ⟨_, rfl⟩
  rw [← hes] at hlen hown hhas hrng hl hids ⊢
  have hxl : (es.zip hs).length = es.length := by rw [List.length_zip, hlen, Nat.min_self]
  rw [← hxl] at hown
  have hgetx : ∀ (j : Nat) (x : Ent × Value), (es.zip hs)[j]? = some x → es[j]? = some x.1 ∧ hs[j]? = some x.2 := fun j x hx => List.getElem?_zip_eq_some.1 hx
  obtain ⟨p, cp, rfl, -, -⟩ := own_readS hown
  obtain ⟨g, hg⟩ : ∃ g, (es.zip hs ≠ [] → p = some ⟨g, 0, none⟩ ∧ F g ∧ ∃ C, C.size = cp * 3 ∧ RowIn w g 97 entC 3 0 (es.zip hs).length (es.zip hs) C) := by
    by_cases hne : es.zip hs = []
    · exact ⟨0, fun h => absurd hne h⟩
    · obtain ⟨g, cap, C, e, -, hrow, -, -, hs'⟩ := own_rowIn entC_len hown hne
      cases e
      exact ⟨g, fun _ => ⟨rfl, hfs g rfl, C, hs', hrow⟩⟩
  have hcapm : (es.zip hs).length ≤ cp ∧ cp ≤ maxLen := by
    rcases hown.2 with ⟨e, h0⟩ | ⟨_, cap, _, e, _, _, hc', hm', _⟩
    · simp only [Value.slice.injEq] at e
      rw [h0, e.2.2]; exact ⟨by omega, by simp [maxLen]⟩
    · simp only [Value.slice.injEq] at e
      rw [e.2.2]; exact ⟨hc', hm'⟩
  obtain ⟨C, hC⟩ : ∃ C, es.zip hs ≠ [] → C.size = cp * 3 ∧ RowIn w g 97 entC 3 0 (es.zip hs).length (es.zip hs) C := by
    by_cases hne : es.zip hs = []
    · exact ⟨#[], fun h => absurd hne h⟩
    · obtain ⟨_, _, C, h1⟩ := hg hne
      exact ⟨C, fun _ => h1⟩
  have hTg : es.zip hs ≠ [] → ¬ Soft A bl c.pushed g := fun hne => h.softno (hC hne).2.1 (by decide) (by decide)
  obtain ⟨g', hg', hg0, hg'n⟩ : ∃ g', (es.zip hs ≠ [] → g' = g) ∧ (es.zip hs = [] → g' = w.heap.size) ∧ ¬ Soft A bl c.pushed g' := by
    by_cases hne : es.zip hs = []
    · exact ⟨w.heap.size, fun h => absurd hne h, fun _ => rfl, fun hs => by have := h.lt _ (h.soft hs).1; omega⟩
    · exact ⟨g, fun _ => rfl, fun h => absurd h hne, hTg hne⟩
  have hg97 : es.zip hs ≠ [] → w.heap[g']? = some (.cells C 97 (0, 0)) := fun hne => by rw [hg' hne]; exact (hC hne).2.1
  -- the relation of the rounds
  let I : Nat → World → Prop := fun j W => Core W F A bl (mkE d mk (es.take j)) (afterE d now c (es.take j)) wv (.slice p (es.zip hs).length cp) ∧ (∀ (k : Nat) (e : Ent) (hv : Value), es[k]? = some e → hs[k]? = some hv → HasAt W F wv bl c.pushed e.ids hv) ∧ Clo W D N0 N2 A now d lv ∧
    (es.zip hs ≠ [] → ∃ C, W.heap[g']? = some (.cells C 97 (0, 0))) ∧ w.heap.size ≤ W.heap.size
  have hI0 : I 0 w := by
    refine ⟨?_, hhas, hc, fun hne => ⟨C, hg97 hne⟩, Nat.le_refl _⟩
    have e1 : mkE d mk (es.take 0) = mk := by funext i; simp [mkE]
    rw [e1]
    exact h
  refine (delete41_c (xs := es.zip hs) (enc := entC) (p := fun x => goneE d x.1) (g := g') (C := C) (T := Soft A bl c.pushed) (I := I) (f := 42) (caps := [.pointer (some ⟨D, 0, none⟩), .pointer (some ⟨N0, 0, none⟩), .pointer (some ⟨N2, 0, none⟩)])
    (fun hne => by rw [hg' hne]; exact (hg hne).1) (fun hne => by rw [hg' hne]; exact (hC hne).2) (by omega) hcapm.1 hg'n (fun i hi => h.lt i (h.soft hi).1) entC_len ?_ ?_ ?_ hI0).mono ?_
  · intro x hx v hv
    obtain ⟨j, hj⟩ := List.getElem?_of_mem hx
    obtain ⟨h1, h2⟩ := hgetx j x hj
    simp only [entC, List.mem_cons, List.not_mem_nil, or_false] at hv
    rcases hv with rfl | rfl | rfl
    · rfl
    · rfl
    · exact own_one (hhas j _ _ h1 h2).own
  · rintro j W W' ⟨h1, h2, h3, h4, h5⟩ h97 hf
    have hne' : ∀ i C t, W.heap[i]? = some (.cells C t (0, 0)) → i < w.heap.size → t ≠ 97 → ¬ i = g' := by
      intro i C t hi hlt ht e
      by_cases hne : es.zip hs = []
      · rw [hg0 hne] at e; omega
      · obtain ⟨C', hC'⟩ := h4 hne
        rw [← e, hi] at hC'; cases hC'; exact ht rfl
    refine ⟨h1.keep hf fun i C t hi hF ht => hne' i C t hi (h.lt i hF) (by rcases ht with rfl | ⟨rfl, _⟩ | rfl | rfl <;> decide), fun k e hv hk hk' => (h2 k e hv hk hk').keep hf fun i C hi hF _ => hne' i C 98 hi (h.lt i hF) (by decide), h3.keep hf fun i hi => ?_, fun _ => h97, Nat.le_trans h5 hf.size⟩
    obtain ⟨C, t, hb, ht⟩ := h3.ty hi
    obtain ⟨_, _, hb', _⟩ := hc.ty hi
    exact hne' i C t hb (lt_of_blk hb') (by rcases ht with rfl | rfl | rfl <;> decide)
  · rintro j x W hx ⟨h1, h2, h3, h4, h5⟩
    obtain ⟨hx1, hx2⟩ := hgetx j x hx
    obtain ⟨e, hv⟩ := x
    have hmem := List.mem_of_getElem? hx1
    refine (del42_c h1 (h2 j e hv hx1 hx2) (hrng e hmem) hnow (hids e hmem) hd h3).mono ?_
    rintro v W' ⟨rfl, h6, hf⟩
    have hf' : Fm (Soft A bl c.pushed) W W' := hf
    refine ⟨rfl, ⟨?_, fun k e' hv' hk hk' => (h2 k e' hv' hk hk').keep hf' fun i C hi _ _ => h1.softno hi (by decide) (by decide), h3.keep hf' fun i hi => ?_, fun hne => ?_, Nat.le_trans h5 hf.size⟩, hf'⟩
    · have e1 : mkE d mk (es.take (j + 1)) = fun i => mkE d mk (es.take j) i || (goneE d e && decide (i ∈ e.ids)) := by
        funext i
        unfold mkE
        rw [List.take_add_one, hx1, Bool.or_assoc]
        simp
      have e2 : afterE d now c (es.take (j + 1)) = { afterE d now c (es.take j) with rtt := (stepE d now ((afterE d now c (es.take j)).rtt, (afterE d now c (es.take j)).timed) e).1, timed := (stepE d now ((afterE d now c (es.take j)).rtt, (afterE d now c (es.take j)).timed) e).2 } := by
        unfold afterE
        rw [List.take_add_one, hx1]
        simp only [Option.toList_some, List.foldl_append, List.foldl_cons, List.foldl_nil]
      rw [e1, e2]
      exact h6
    · obtain ⟨C, t, hb, ht⟩ := h3.ty hi
      exact h1.softno hb (by rcases ht with rfl | rfl | rfl <;> decide) (by rcases ht with rfl | rfl | rfl <;> decide)
    · obtain ⟨C', hC'⟩ := h4 hne
      exact ⟨C', hf'.keep hC' (h1.softno hC' (by decide) (by decide))⟩
  · rintro v w' ⟨rfl, hI, hF, hrow⟩
    obtain ⟨h1, h2, h3, h4, h5⟩ := hI
    have h1' : Core w' F A bl (mkE d mk (es.take es.length)) (afterE d now c (es.take es.length)) wv (.slice p (es.zip hs).length cp) := by rw [← hxl]; exact h1
    rw [List.take_length] at h1'
    obtain ⟨ks, hks⟩ : ∃ ks, ks = (es.zip hs).filter fun x => !goneE d x.1 := ⟨_, rfl⟩
    have hk1 : ks.map (·.1) = es.filter fun e => !goneE d e := by rw [hks]; exact zip_fst_filter (fun e => !goneE d e) es hs hlen
    have hmem : ∀ x ∈ ks, x ∈ es.zip hs := fun x hx => by rw [hks] at hx; exact (List.mem_filter.1 hx).1
    rw [← hks] at hrow ⊢
    have hfull : Fm (fun i => F i ∧ ∃ C t, w.heap[i]? = some (.cells C t (0, 0)) ∧ (t = 79 ∨ t = 100 ∨ t = 97)) w w' := by
      refine hF.mono fun i _ hi => ?_
      rcases hi with hi | ⟨rfl, hne⟩
      · obtain ⟨hFi, C, t, hb, ht⟩ := h.soft hi
        exact ⟨hFi, C, t, hb, ht.imp id .inl⟩
      · rw [hg' hne]
        exact ⟨(hg hne).2.1, _, _, (hC hne).2.1, .inr (.inr rfl)⟩
    refine ⟨ks.map (·.2), h1', ?_, h3, hfull, by cases p <;> rfl⟩
    rw [← hk1]
    refine ⟨by simp, ?_, ?_, ?_, ?_⟩
    · rw [zip_unzip, List.length_map]
      by_cases hne : es.zip hs = []
      · have hk0 : ks = [] := by rw [hks, hne]; rfl
        have hown2 : w'.ownsRow 0 97 3 (.slice p (es.zip hs).length cp) (es.zip hs).length ((es.zip hs).flatMap entC) := hF.owns hown fun i hi hs => by
          rcases hs with hs | ⟨_, hne'⟩
          · obtain ⟨_, cur, hb⟩ := own_block hown hi
            exact h.softno hb (by decide) (by decide) hs
          · exact hne' hne
        rw [hk0]
        rw [hne] at hown2
        exact hown2
      · obtain ⟨C', hC's, hr⟩ := hrow hne
        have hp : p = some ⟨g', 0, none⟩ := by rw [hg' hne]; exact (hg hne).1
        rw [hp]
        have hkl : ks.length ≤ (es.zip hs).length := by rw [hks]; exact List.length_filter_le _ _
        exact rowIn_own entC_len hr hkl (Nat.zero_le _) (by omega) hcapm.2 (by rw [hC's, (hC hne).1])
    · intro i hi
      exact hfs i (by cases p <;> exact hi)
    · intro j e hv he hh
      rw [List.getElem?_map, Option.map_eq_some_iff] at he hh
      obtain ⟨x, hx, rfl⟩ := he
      obtain ⟨y, hy, rfl⟩ := hh
      rw [hx] at hy; cases hy
      obtain ⟨k, hk⟩ := List.getElem?_of_mem (hmem x (List.mem_of_getElem? hx))
      exact h2 k _ _ (hgetx k x hk).1 (hgetx k x hk).2
    · intro e he
      obtain ⟨x, hx, rfl⟩ := List.mem_map.1 he
      obtain ⟨k, hk⟩ := List.getElem?_of_mem (hmem x hx)
      exact hrng _ (List.mem_of_getElem? (hgetx k x hk).1)
theorem HasAt.reW {n : Nat} {ids : List Nat} {h v : Value} (H : HasAt w F wv bl n ids h) (hv : v.ownBlock = wv.ownBlock) : HasAt w F v bl n ids h := ⟨H.own, fun i hi => ⟨(H.inF i hi).1, by rw [hv]; exact (H.inF i hi).2⟩, H.lt⟩
theorem SentAt.keep {w' : World} {S : Nat → Prop} {n : Nat} {es : List Ent} {hs : List Value} (h : SentAt w F bl n es wv sv hs) (f : Fm S w w') (hS : ∀ i C t, w.heap[i]? = some (.cells C t (0, 0)) → F i → t = 97 ∨ t = 98 ∧ wv.ownBlock ≠ some i → ¬ S i) : SentAt w' F bl n es wv sv hs := by
  refine { h with own := f.owns h.own fun i hi => ?_, has := fun j e hv he hh => (h.has j e hv he hh).keep f fun i C hi hF hw => hS i C 98 hi hF (.inr ⟨rfl, hw⟩) }
  obtain ⟨_, cur, hc⟩ := own_block h.own hi
  exact hS i _ _ hc (h.fs i hi) (.inl rfl)
theorem SentAt.reW {n : Nat} {es : List Ent} {hs : List Value} {v : Value} (h : SentAt w F bl n es wv sv hs) (hv : v.ownBlock = wv.ownBlock) : SentAt w F bl n es v sv hs := { h with has := fun j e x he hh => (h.has j e x he hh).reW hv }
theorem Core.filt {w' : World} {v : Value} (h : Core w F A bl mk c wv sv) (q : Nat × Msg → Bool) (f : Fm (fun i => i = A ∨ wv.ownBlock = some i) w w') (hb : BoxA w' A (.int .u16 c.next) v sv c.win (.int .i64 c.rtt) (.bool c.timed) (.int .u32 c.heard))
    (hown : w'.ownsRow 0 98 1 v (c.wait.filter q).length (ptrs bl ((c.wait.filter q).map (·.1)))) (hv : v.ownBlock = wv.ownBlock) : Core w' F A bl mk { c with wait := c.wait.filter q } v sv := by
  have ne : ∀ {i C t}, w.heap[i]? = some (.cells C t (0, 0)) → t ≠ 79 → t ≠ 98 → ¬ (i = A ∨ wv.ownBlock = some i) := by
    rintro i C t hi ht ht' (rfl | hw)
    · have hA := h.box
      unfold BoxA at hA
      rw [hi] at hA; cases hA; exact ht rfl
    · obtain ⟨_, cur, hc⟩ := own_block h.own hw
      rw [hi] at hc; cases hc; exact ht' rfl
  refine { h with box := hb, lt := fun i hi => Nat.lt_of_lt_of_le (h.lt i hi) f.size, own := hown, fw := fun i hi => h.fw i (by rw [← hv]; exact hi), ids := fun i hi => ?_, msgs := fun x hx => ?_, many := Nat.le_trans (List.length_filter_le _ _) h.many }
  · obtain ⟨h1, cs, h2, h3⟩ := h.ids i hi
    exact ⟨h1, cs, h2, f.keep h3 (ne h3 (by decide) (by decide))⟩
  · obtain ⟨h1, h2, q', cq, h3, h4⟩ := h.msgs x (List.mem_filter.1 hx).1
    exact ⟨h1, h2, q', cq, f.keep h3 (ne h3 (by decide) (by decide)), h4.keep f fun i C hi _ => ne hi (by decide) (by decide)⟩
set_option maxRecDepth 20000 in
set_option maxHeartbeats 1000000 in
theorem del_waits (h : Core w F A bl mk c wv sv) : callV Tryd.prog 45 [wv, .func (.func 46) #[] #[]] w fun v w' =>
    w'.ownsRow 0 98 1 v (c.wait.filter fun x => !mk x.1).length (ptrs bl ((c.wait.filter fun x => !mk x.1).map (·.1))) ∧ v.ownBlock = wv.ownBlock ∧ Fm (fun i => wv.ownBlock = some i) w w' := by
  have hown := h.own
  rw [ptrs_map] at hown
  have hfw := h.fw
  obtain ⟨p, cp, rfl, -, -⟩ := own_readS hown
  have hcapm : c.wait.length ≤ cp ∧ cp ≤ maxLen := by
    rcases hown.2 with ⟨e, h0⟩ | ⟨_, cap, _, e, _, _, hc', hm', _⟩
    · simp only [Value.slice.injEq] at e
      rw [h0, e.2.2]; exact ⟨by omega, by simp [maxLen]⟩
    · simp only [Value.slice.injEq] at e
      rw [e.2.2]; exact ⟨hc', hm'⟩
  obtain ⟨g, C, hg⟩ : ∃ g C, (c.wait ≠ [] → p = some ⟨g, 0, none⟩ ∧ C.size = cp * 1 ∧ RowIn w g 98 (ptr1 fun x => adOf bl x.1) 1 0 c.wait.length c.wait C) := by
    by_cases hne : c.wait = []
    · exact ⟨0, #[], fun h => absurd hne h⟩
    · obtain ⟨g, cap, C, e, -, hrow, -, -, hs'⟩ := own_rowIn (enc := ptr1 fun x : Nat × Msg => adOf bl x.1) (k := 1) (fun _ => rfl) hown hne
      cases e
      exact ⟨g, C, fun _ => ⟨rfl, hs', hrow⟩⟩
  have hmany := h.many
  by_cases hne : c.wait = []
  · have hn : ∀ (f : Nat × Msg → Bool), c.wait.filter f = [] := fun f => by rw [hne]; rfl
    refine (delete45_c (xs := c.wait) (ad := fun x => adOf bl x.1) (p := fun x => mk x.1) (g := 0) (C := #[]) (J := fun _ => True) (f := 46) (caps := []) (fun h => absurd hne h) (fun h => absurd hne h) (by omega) hcapm.1 (fun _ _ _ _ => trivial) (fun x hx => by rw [hne] at hx; cases hx) trivial).mono ?_
    rintro v w' ⟨rfl, hF, -⟩
    have hF' : Fm none' w w' := hF.mono fun i _ h => absurd hne h.2
    refine ⟨?_, by cases p <;> rfl, hF'.none⟩
    rw [hn]
    have := hF'.owns hown fun _ _ => id
    rw [hne] at this
    exact this
  obtain ⟨hp, hCs, hrow⟩ := hg hne
  have hgne : ∀ k, k < c.pushed → bl k ≠ g := by
    rintro k hk e
    obtain ⟨_, cs, _, h3⟩ := h.ids k hk
    rw [e, hrow.1] at h3; cases h3
  refine (delete45_c (xs := c.wait) (ad := fun x => adOf bl x.1) (p := fun x => mk x.1) (g := g) (C := C) (J := fun W => ∀ k, k < c.pushed → ∃ cs : List Value, cs.length = 23 ∧ W.heap[bl k]? = some (.cells (cs ++ [Value.bool (mk k)]).toArray 100 (0, 0))) (f := 46) (caps := [])
    (fun _ => hp) (fun _ => hrow) (by omega) hcapm.1 (fun W W' hJ hf k hk => ?_) (fun x hx W hJ => ?_) (fun k hk => (h.ids k hk).2)).mono ?_
  · obtain ⟨cs, h1, h2⟩ := hJ k hk
    exact ⟨cs, h1, hf.keep h2 (hgne k hk)⟩
  · obtain ⟨cs, h1, h2⟩ := hJ x.1 (h.msgs x hx).1
    exact del46_c h1 h2
  · rintro v w' ⟨rfl, hF, hr⟩
    obtain ⟨C', hC', hr'⟩ := hr hne
    refine ⟨?_, by cases p <;> rfl, hF.mono fun i _ hi => by rw [hp, hi.1]; rfl⟩
    rw [ptrs_map, hp]
    have hkl := List.length_filter_le (fun x => !mk x.1) c.wait
    exact rowIn_own (fun _ => rfl) hr' hkl (Nat.zero_le _) (by omega) hcapm.2 (by rw [hC', hCs])
end
end Go.Proofs.YtipikchkbmgloaaDoor
namespace Go.Proofs.YtipikchkbmgloaaDoor
set_option linter.unusedSimpArgs false
set_option linter.unusedVariables false
open Go Go.RowKit VC
variable {w : World}
theorem decD_ok {ys : List Int} (hy : ∀ y ∈ ys, 0 ≤ y ∧ y < 256) : Dok (decD ys).1 := by
  have hz : Dok dgZ := ⟨by decide, by decide, by decide⟩
  unfold decD
  split
  · exact hz
  split
  · exact hz
  split
  · exact hz
  split
  · exact hz
  rename_i h11 _ _ _
  have h1 := valB_lt 2 (ys.take 2) (by rw [List.length_take]; omega) fun y h => hy y (List.mem_of_mem_take h)
  have h2 := valB_lt 2 ((ys.take 5).drop 3) (by rw [List.length_drop, List.length_take]; omega) fun y h => hy y (List.mem_of_mem_take (List.mem_of_mem_drop h))
  have h3 := valB_lt 4 ((ys.take 9).drop 5) (by rw [List.length_drop, List.length_take]; omega) fun y h => hy y (List.mem_of_mem_take (List.mem_of_mem_drop h))
  exact ⟨h1, h2, h3⟩
theorem decD_err {ys : List Int} (h : (decD ys).2 ≠ 0) : (decD ys).1 = dgZ := by
  unfold decD at h ⊢
  repeat' split
  all_goals first | rfl | skip
  rename_i h1 h2 h3 h4
  simp only [if_neg h1, if_neg h2, if_neg h3, if_neg h4] at h
  exact absurd rfl h
theorem stepE_le {d : Dg} {now : Nat} {s : Nat × Bool} {e : Ent} (h : s.1 ≤ 1000) : (stepE d now s e).1 ≤ 1000 := by
  unfold stepE
  have ht : tookN now e.now ≤ 1000 := by unfold tookN; split <;> omega
  split
  · show (if s.2 = true then _ else _) ≤ 1000
    split <;> omega
  · exact h
set_option maxRecDepth 20000 in
set_option maxHeartbeats 2000000 in
theorem unpack18_c {F : Nat → Prop} {A : Nat} {c : Ch} {ys : List Int} {p : Option Addr} {cp now : Nat} (hH : Halves w) (h : ChAt w F A c) (hb : BytesAt w p ys) (hy : ∀ y ∈ ys, 0 ≤ y ∧ y < 256) (hl : ys.length ≤ 1000000) (hnc : ys.length ≤ cp) (hnow : now < 4294967296)
    (hsl : c.sent.length ≤ 1000000) (hids : ∀ e ∈ c.sent, e.ids.length ≤ 1000000) :
    callV Tryd.prog 18 [.pointer (some ⟨A, 0, none⟩), .slice p ys.length cp, .int .u32 now] w fun v w' =>
      ∃ q e, v = .tuple #[.slice q (unpackC c ys now).1.1.length e, .int .i64 (unpackC c ys now).1.2] ∧ OwnMsgs w' w.heap.size (.slice q (unpackC c ys now).1.1.length e) (unpackC c ys now).1.1 ∧ ChAt w' F A (unpackC c ys now).2 ∧ Fm F w w' := by
  obtain ⟨bl, mk, wv, sv, hs, hc, hS, hmk⟩ := h
  refine vc18 ⟨A, 0, none⟩ p ys.length cp now w _ ?_
  refine allocC_of fun w1 hb1 hs1 hf1 => allocC_of fun w3 hb3 hs3 hf3 => ?_
  obtain ⟨N0, hN0⟩ : ∃ N0, N0 = w.heap.size := ⟨_, rfl⟩
  obtain ⟨N2, hN2⟩ : ∃ N2, N2 = w1.heap.size := ⟨_, rfl⟩
  rw [← hN0] at hb1 ⊢
  rw [← hN2] at hb3 ⊢
  have hF3 := hf1.trans hf3
  refine (decode12_c (c := cp) (hH.keep hF3 id) (hb.keep hF3 fun _ _ => id) hy hl hnc).mono ?_
  rintro _ w5 ⟨q, cq, rfl, hown, hF5⟩
  have hF5w := hF3.trans hF5
  simp only [vcs, eqV, nilV, Option.map_some, Nat.mul_one, implies_true, true_and, and_true, and_self, List.getElem?_toArray, List.getElem?_cons_zero, List.getElem?_cons_succ]
  refine allocC_of fun w12 hb12 hs12 hf12 => ?_
  obtain ⟨D, hD⟩ : ∃ D, D = w5.heap.size := ⟨_, rfl⟩
  rw [← hD] at hb12 ⊢
  refine rd_of (v := ()) rfl ?_
  have hcells : cellsOf true (dgC (decD ys).1 q cq) = [.int .u16 (decD ys).1.seq, .bool (decD ys).1.any, .int .u16 (decD ys).1.last, .int .u32 (decD ys).1.bits, .slice q (decD ys).1.list.length cq] := rfl
  rw [hcells]
  refine stC_all hb12 rfl (fun v hv => by simp at hv; rcases hv with rfl | rfl | rfl | rfl | rfl <;> rfl) fun w13 hb13 hf13 => ?_
  have hsz1 := hf1.size
  have hsz3 := hF3.size
  have hsz5 := hF5w.size
  have hF13 : Fm none' w w13 := (hF5w.trans hf12).trans' hf13 fun i hi e => by omega
  have hdok := decD_ok hy
  have hown13 : OwnMsgs w13 w.heap.size (.slice q (decD ys).1.list.length cq) (decD ys).1.list := by
    refine (hown.base hsz3).keep (hf12.none.trans hf13) ?_
    rintro i C t hi _ ht rfl
    have := lt_of_blk hi; omega
  have hclo : Clo w13 D N0 N2 A now (decD ys).1 (.slice q (decD ys).1.list.length cq) := by
    have k1 : w3.heap[N0]? = some (.cells #[.pointer (some ⟨A, 0, none⟩)] 43 (0, 0)) := hf3.keep hb1 id
    have h1 := hf12.keep (hF5.keep k1 id) id
    have h2 := hf12.keep (hF5.keep hb3 id) id
    have e1 : N0 ≠ D := by have := hF5.size; omega
    have e2 : N2 ≠ D := by have := hF5.size; omega
    exact ⟨hb13, hf13.keep h1 e1, hf13.keep h2 e2⟩
  have hc13 : Core w13 F A bl mk c wv sv := hc.keep hF13 fun _ _ _ _ _ _ => id
  have hS13 : SentAt w13 F bl c.pushed c.sent wv sv hs := hS.keep hF13 fun _ _ _ _ _ _ => id
  refine br_ndec (fun he => ?_) (fun he => ?_)
  · have e : unpackC c ys now = (([], (decD ys).2), c) := by unfold unpackC; rw [if_pos he]
    rw [e]
    exact ⟨none, 0, rfl, OwnMsgs.nil _ _, ⟨bl, mk, wv, sv, hs, hc13, hS13, hmk⟩, hF13.none⟩
  have kA : w13.drew.cell? ⟨N0, 0, none⟩ = some (.pointer (some ⟨A, 0, none⟩)) := cellOf (w := w13.drew) hclo.a rfl
  have kD : w13.drew.cell? ⟨D, 0, none⟩ = some (.int .u16 (decD ys).1.seq) := cellOf (w := w13.drew) hclo.d rfl
  have hAlt : ∀ i, i = A → i < w.heap.size := fun i e => e ▸ hc.lt A hc.fA
  have hAN : N0 ≠ A ∧ N2 ≠ A ∧ D ≠ A := by have := hc.lt A hc.fA; omega
  refine ⟨fun w' => Fm (fun i => i = A) w13.drew w', Fm.refl _ _, ?_⟩
  have sA : ∀ w', Fm (fun i => i = A) w13.drew w' → w'.cell? ⟨N0, 0, none⟩ = some (.pointer (some ⟨A, 0, none⟩)) := fun w' hf => hf.cell kA hAN.1
  refine rd_of (v := .pointer (some ⟨A, 0, none⟩)) kA ⟨fun w' hf => rd_of (sA w' hf) rfl, ?_⟩
  simp only [vcs, eqV, nilV, Option.map_some, Nat.mul_one, implies_true, true_and, and_true, and_self]
  simp only [addr_add, Nat.zero_add]
  refine rd_of (v := .int .u16 (decD ys).1.seq) kD ⟨fun w' hf => rd_of (v := .int .u16 (decD ys).1.seq) (hf.cell kD hAN.2.2) rfl, ?_⟩
  simp only [vcs, eqV, nilV, Option.map_some, Nat.mul_one, implies_true, true_and, and_true, and_self]
  have hc13d : Core w13.drew F A bl mk c wv sv := hc13.keep (Fm.drew w13) fun _ _ _ _ _ _ => id
  refine (accept40_c hc13d.box hc.wok hdok.seq).mono ?_
  rintro _ w36 ⟨rfl, hbox36, hf36⟩
  have hF36 : Fm F w w36 := (hF13.trans (Fm.drew w13)).none.trans (hf36.mono fun i _ e => e ▸ hc.fA)
  simp only [vcs, eqV, nilV, Option.map_some, Nat.mul_one, implies_true, true_and, and_true, and_self]
  refine ⟨hf36, ?_⟩
  have hc36 : Core w36 F A bl mk { c with win := (accW c.win (decD ys).1.seq).2 } wv sv := hc13d.turn hf36 rfl rfl hbox36 (accW_ok hc.wok hdok.seq) hc.next hc.heard hc.rtt
  have noA : ∀ {W : World} {i : Nat} {C : Array Value} {t : Nat} {c' : Ch} {mk' : Nat → Bool}, Core W F A bl mk' c' wv sv → W.heap[i]? = some (.cells C t (0, 0)) → t ≠ 79 → ¬ i = A := by
    rintro W i C t c' mk' hcW hi ht rfl
    have := hcW.box
    unfold BoxA at this
    rw [hi] at this; cases this; exact ht rfl
  have hS36 : SentAt w36 F bl c.pushed c.sent wv sv hs := (hS13.keep (Fm.drew w13) fun _ _ _ _ _ _ => id).keep hf36 fun i C t hi _ ht => noA hc13d hi (by rcases ht with rfl | ⟨rfl, _⟩ <;> decide)
  have hclo36 : Clo w36 D N0 N2 A now (decD ys).1 (.slice q (decD ys).1.list.length cq) := hclo.keep ((Fm.drew w13).none.trans hf36) fun i hi e => by rcases hi with h | h | h <;> omega
  cases hacc : (accW c.win (decD ys).1.seq).1 with
  | false =>
    simp only [Bool.not_false, vcs, eqV, nilV, Option.map_some, Nat.mul_one, implies_true, true_and, and_true, and_self]
    have hsame : (accW c.win (decD ys).1.seq).2 = c.win := by
      unfold accW at hacc ⊢
      split
      · rename_i h; rw [if_pos h] at hacc; cases hacc
      · rename_i h; rw [if_neg h] at hacc
        split
        · rename_i h2; rw [if_pos h2] at hacc; cases hacc
        · rename_i h2; rw [if_neg h2] at hacc
          split
          · rfl
          · rename_i h3; rw [if_neg h3] at hacc; cases hacc
    have e : unpackC c ys now = (([], 7), c) := by
      unfold unpackC
      rw [if_neg (by simpa using he), if_pos hacc]
    rw [e]
    rw [hsame] at hc36
    exact ⟨none, 0, rfl, OwnMsgs.nil _ _, ⟨bl, mk, wv, sv, hs, hc36, hS36, hmk⟩, hF36⟩
  | true =>
    simp only [Bool.not_true, vcs, eqV, nilV, Option.map_some, Nat.mul_one, implies_true, true_and, and_true, and_self]
    have kA36 : w36.cell? ⟨N0, 0, none⟩ = some (.pointer (some ⟨A, 0, none⟩)) := cellOf hclo36.a rfl
    have kN36 : w36.cell? ⟨N2, 0, none⟩ = some (.int .u32 now) := cellOf hclo36.n rfl
    simp only [kA36, kN36, vcs, eqV, nilV, Option.map_some, Nat.mul_one, implies_true, true_and, and_true, and_self]
    simp only [addr_add, Nat.zero_add]
    refine stC_one hbox36 (by simp) rfl fun w46 hb46 hf46 => ?_
    obtain ⟨c1, hc1⟩ : ∃ c1 : Ch, c1 = { c with win := (accW c.win (decD ys).1.seq).2, heard := now } := ⟨_, rfl⟩
    have hc46 : Core w46 F A bl mk c1 wv sv := by
      rw [hc1]
      exact hc36.turn hf46 rfl rfl hb46 (accW_ok hc.wok hdok.seq) hc.next hnow hc.rtt
    have hp1 : c1.pushed = c.pushed := by rw [hc1]
    have hs1' : c1.sent = c.sent := by rw [hc1]
    have hS46 : SentAt w46 F bl c1.pushed c1.sent wv sv hs := by
      rw [hp1, hs1']
      exact hS36.keep hf46 fun i C t hi _ ht => noA hc36 hi (by rcases ht with rfl | ⟨rfl, _⟩ <;> decide)
    have hclo46 : Clo w46.drew D N0 N2 A now (decD ys).1 (.slice q (decD ys).1.list.length cq) := (hclo36.keep hf46 fun i hi e => by rcases hi with h | h | h <;> omega).keep (Fm.drew w46) fun _ _ => id
    have hF46 : Fm F w w46 := hF36.trans (hf46.mono fun i _ e => e ▸ hc.fA)
    have kA46 : w46.drew.cell? ⟨N0, 0, none⟩ = some (.pointer (some ⟨A, 0, none⟩)) := cellOf hclo46.a rfl
    have kS46 : w46.drew.cell? ⟨A, 2, none⟩ = some sv := cellOf (w := w46.drew) hc46.box rfl
    refine ⟨fun w' => w'.cell? ⟨N0, 0, none⟩ = some (.pointer (some ⟨A, 0, none⟩)) ∧ w'.cell? ⟨A, 2, none⟩ = some sv, ⟨kA46, kS46⟩, ?_⟩
    refine rd_of (v := .pointer (some ⟨A, 0, none⟩)) kA46 ⟨fun w' hf => rd_of hf.1 rfl, ?_⟩
    simp only [vcs, eqV, nilV, Option.map_some, Nat.mul_one, implies_true, true_and, and_true, and_self]
    refine rd_of (v := .pointer (some ⟨A, 0, none⟩)) kA46 ⟨fun w' hf => rd_of hf.1 rfl, ?_⟩
    simp only [vcs, eqV, nilV, Option.map_some, Nat.mul_one, implies_true, true_and, and_true, and_self]
    simp only [addr_add, Nat.zero_add]
    refine rd_of (v := sv) kS46 ⟨fun w' hf => rd_of hf.2 rfl, ?_⟩
    obtain ⟨ps, cs, hsv, -, -⟩ := own_readS hS46.own
    have hsl1 : c1.sent.length ≤ 1000000 := by rw [hs1']; exact hsl
    have hids1 : ∀ e ∈ c1.sent, e.ids.length ≤ 1000000 := by rw [hs1']; exact hids
    have hdel := del_sent (hc46.keep (Fm.drew w46) fun _ _ _ _ _ _ => id) (hS46.keep (Fm.drew w46) fun _ _ _ _ _ _ => id) hdok.bits hnow hclo46 hsl1 hids1
    rw [hsv] at hdel ⊢
    simp only [vcs, eqV, nilV, Option.map_some, Nat.mul_one, implies_true, true_and, and_true, and_self]
    refine hdel.mono ?_
    rintro v75 w76 ⟨hs', hc76, hS76, hclo76, hF76, hblk⟩
    obtain ⟨pv, cv, rfl, -, -⟩ := own_readS hS76.own
    have hbox76 := hc76.box
    simp only [vcs, eqV, nilV, Option.map_some, Nat.mul_one, implies_true, true_and, and_true, and_self]
    have kA76 : w76.cell? ⟨N0, 0, none⟩ = some (.pointer (some ⟨A, 0, none⟩)) := cellOf hclo76.a rfl
    refine ⟨⟨kA76, cellOf hbox76 rfl⟩, ?_⟩
    refine stC_one hbox76 (by simp) rfl fun w82 hb82 hf82 => ?_
    obtain ⟨c2, hc2⟩ : ∃ c2 : Ch, c2 = { afterE (decD ys).1 now c1 c1.sent with sent := c1.sent.filter fun e => !goneE (decD ys).1 e } := ⟨_, rfl⟩
    have hrt : ∀ (es : List Ent) (s : Nat × Bool), s.1 ≤ 1000 → (es.foldl (stepE (decD ys).1 now) s).1 ≤ 1000 := by
      intro es
      induction es with
      | nil => intro s hs; exact hs
      | cons e es ih => intro s hs; exact ih _ (stepE_le hs)
    have hsl2 : ∀ {v : Value}, (Value.slice pv (c1.sent.filter fun e => !goneE (decD ys).1 e).length cv).ownBlock = v.ownBlock → True := fun _ => trivial
    have hc82 : Core w82 F A bl (mkE (decD ys).1 mk c1.sent) c2 wv (.slice pv (c1.sent.filter fun e => !goneE (decD ys).1 e).length cv) := by
      rw [hc2]
      refine hc76.turn hf82 rfl rfl hb82 ?_ ?_ ?_ ?_
      · exact hc76.wok
      · exact hc76.next
      · exact hc76.heard
      · exact hc76.rtt
    have no79 : ∀ i C t, w76.heap[i]? = some (.cells C t (0, 0)) → t ≠ 79 → ¬ i = A := by
      rintro i C t hi ht rfl
      unfold BoxA at hbox76
      rw [hi] at hbox76; cases hbox76; exact ht rfl
    have hS82 : SentAt w82 F bl c1.pushed (c1.sent.filter fun e => !goneE (decD ys).1 e) wv (.slice pv (c1.sent.filter fun e => !goneE (decD ys).1 e).length cv) hs' :=
      hS76.keep hf82 fun i C t hi _ ht => no79 i C t hi (by rcases ht with rfl | ⟨rfl, _⟩ <;> decide)
    have hclo82 : Clo w82.drew D N0 N2 A now (decD ys).1 (.slice q (decD ys).1.list.length cq) := (hclo76.keep hf82 fun i hi e => by rcases hi with h | h | h <;> omega).keep (Fm.drew w82) fun _ _ => id
    have hF76' : Fm F w46.drew w76 := hF76.mono fun i _ h => h.1
    have hF82 : Fm F w w82 := ((hF46.trans (Fm.drew w46).none).trans hF76').trans (hf82.mono fun i _ e => e ▸ hc.fA)
    have kA82 : w82.drew.cell? ⟨N0, 0, none⟩ = some (.pointer (some ⟨A, 0, none⟩)) := cellOf hclo82.a rfl
    have kW82 : w82.drew.cell? ⟨A, 1, none⟩ = some wv := cellOf (w := w82.drew) hc82.box rfl
    refine ⟨fun w' => w'.cell? ⟨N0, 0, none⟩ = some (.pointer (some ⟨A, 0, none⟩)) ∧ w'.cell? ⟨A, 1, none⟩ = some wv, ⟨kA82, kW82⟩, ?_⟩
    refine rd_of (v := .pointer (some ⟨A, 0, none⟩)) kA82 ⟨fun w' hf => rd_of hf.1 rfl, ?_⟩
    simp only [vcs, eqV, nilV, Option.map_some, Nat.mul_one, implies_true, true_and, and_true, and_self]
    refine rd_of (v := .pointer (some ⟨A, 0, none⟩)) kA82 ⟨fun w' hf => rd_of hf.1 rfl, ?_⟩
    simp only [vcs, eqV, nilV, Option.map_some, Nat.mul_one, implies_true, true_and, and_true, and_self]
    simp only [addr_add, Nat.zero_add]
    refine rd_of (v := wv) kW82 ⟨fun w' hf => rd_of hf.2 rfl, ?_⟩
    have hc82d : Core w82.drew F A bl (mkE (decD ys).1 mk c1.sent) c2 wv (.slice pv (c1.sent.filter fun e => !goneE (decD ys).1 e).length cv) := hc82.keep (Fm.drew w82) fun _ _ _ _ _ _ => id
    have hdw := del_waits hc82d
    obtain ⟨pw, cw, hwv⟩ := hc82.wvSl
    rw [hwv] at hdw ⊢
    simp only [vcs, eqV, nilV, Option.map_some, Nat.mul_one, implies_true, true_and, and_true, and_self]
    refine hdw.mono ?_
    rw [← hwv]
    rintro v109 w110 ⟨hown110, hblk110, hf110⟩
    obtain ⟨p1, c1', rfl, -, -⟩ := own_readS hown110
    have no98 : ∀ i C t, w82.drew.heap[i]? = some (.cells C t (0, 0)) → t ≠ 98 → ¬ wv.ownBlock = some i := by
      intro i C t hi ht hw
      obtain ⟨_, cur, hcur⟩ := own_block hc82d.own hw
      rw [hi] at hcur; cases hcur; exact ht rfl
    have hbox110 : BoxA w110 A (.int .u16 c2.next) wv (.slice pv (c1.sent.filter fun e => !goneE (decD ys).1 e).length cv) c2.win (.int .i64 c2.rtt) (.bool c2.timed) (.int .u32 c2.heard) := hf110.keep hc82d.box (no98 _ _ _ hc82d.box (by decide))
    have hclo110 : Clo w110 D N0 N2 A now (decD ys).1 (.slice q (decD ys).1.list.length cq) := hclo82.keep hf110 fun i hi => by
      obtain ⟨C, t, hb, ht⟩ := hclo82.ty hi
      exact no98 i C t hb (by rcases ht with rfl | rfl | rfl <;> decide)
    have kA110 : w110.cell? ⟨N0, 0, none⟩ = some (.pointer (some ⟨A, 0, none⟩)) := cellOf hclo110.a rfl
    simp only [vcs, eqV, nilV, Option.map_some, Nat.mul_one, implies_true, true_and, and_true, and_self]
    refine ⟨⟨kA110, cellOf hbox110 rfl⟩, ?_⟩
    refine stC_one hbox110 (by simp) rfl fun w116 hb116 hf116 => ?_
    have hne116 : ∀ i C t, w110.heap[i]? = some (.cells C t (0, 0)) → t ≠ 79 → ¬ i = A := by
      rintro i C t hi ht rfl
      unfold BoxA at hbox110
      rw [hi] at hbox110; cases hbox110; exact ht rfl
    have hclo116 := hclo110.keep hf116 fun i hi => by
      obtain ⟨C, t, hb, ht⟩ := hclo110.ty hi
      exact hne116 i C t hb (by rcases ht with rfl | rfl | rfl <;> decide)
    have kD116 : w116.cell? ⟨D, 4, none⟩ = some (.slice q (decD ys).1.list.length cq) := cellOf hclo116.d rfl
    simp only [kD116, vcs, eqV, nilV, Option.map_some, Nat.mul_one, implies_true, true_and, and_true, and_self]
    have hdone : unpackC c ys now = (((decD ys).1.list, 0), { c2 with wait := c2.wait.filter fun x => !(mkE (decD ys).1 mk c1.sent x.1) }) := by
      unfold unpackC
      rw [if_neg (by simpa using he), if_neg (by rw [hacc]; simp), hc2, hc1]
      simp only [afterE, Prod.mk.injEq, Ch.mk.injEq, true_and, and_true]
      refine List.filter_congr fun x hx => ?_
      simp only [mkE, hmk x hx, Bool.false_or]
    rw [hdone]
    have hF116 : Fm F w w116 := ((hF82.trans (Fm.drew w82).none).trans (hf110.mono fun i _ h => hc82d.fw i h)).trans (hf116.mono fun i _ e => e ▸ hc.fA)
    refine ⟨q, cq, rfl, ?_, ⟨bl, mkE (decD ys).1 mk c1.sent, _, _, hs', hc82d.filt (fun x => !(mkE (decD ys).1 mk c1.sent x.1)) ((hf110.mono fun i _ h => .inr h).trans (hf116.mono fun i _ h => .inl h)) hb116 ?_ hblk110, ?_, ?_⟩, hF116⟩
    · have hAF : ∀ i, i = A → F i := fun i e => e ▸ hc.fA
      have hall : Fm F w13 w116 := ((((((((Fm.drew w13).none.trans (hf36.mono fun i _ => hAF i)).trans (hf46.mono fun i _ => hAF i)).trans (Fm.drew w46).none).trans hF76').trans (hf82.mono fun i _ => hAF i)).trans (Fm.drew w82).none).trans (hf110.mono fun i _ h => hc82d.fw i h)).trans (hf116.mono fun i _ => hAF i)
      exact (hN0 ▸ hown13).keep hall fun i C t _ hbi _ hFi => by have := hc.lt i hFi; omega
    · refine hf116.owns hown110 fun i hi => ?_
      obtain ⟨_, cur, hcur⟩ := own_block hown110 hi
      exact hne116 i _ _ hcur (by decide)
    · have hS110 := (hS82.keep (Fm.drew w82) fun _ _ _ _ _ _ => id).keep hf110 fun i C t hi _ ht => by
        rcases ht with rfl | ⟨rfl, h⟩
        · exact no98 i C _ hi (by decide)
        · exact h
      have hS116 := (hS110.keep hf116 fun i C t hi _ ht => hne116 i C t hi (by rcases ht with rfl | ⟨rfl, _⟩ <;> decide)).reW hblk110
      subst hc2
      exact hS116
    · intro x hx
      have := (List.mem_filter.1 hx).2
      simpa using this
end Go.Proofs.YtipikchkbmgloaaDoor
namespace Go.Proofs.YtipikchkbmgloaaDoor
set_option linter.unusedSimpArgs false
set_option linter.unusedVariables false
open Go VC
theorem vc17 (a : Addr) (bp : Option Addr) (bn : Nat) (bc : Nat) (c : Int) (w : World) (R : Value → World → Prop)
  (h : cutC (fun u0 => heldC (World.drew w) fun u1 => (∀ (w2 : World), u1 w2 → Value.pointer (some a) = Value.pointer (some a) ∧ w2 = w2) ∧ (∀ (w4 : World), u1 w4 → Value.pointer (some a) = Value.pointer (some a) ∧ w4 = w4) ∧ (∀ (w6 : World), u1 w6 → Value.pointer (some a) = Value.pointer (some a) ∧ w6 = w6) ∧ rd (World.cell? (World.drew w) a) fun v8 => (∀ (w9 : World), u1 w9 → rd (World.cell? w9 a) fun v11 => v11 = v8 ∧ w9 = w9) ∧ isK IntKind.u16 v8 fun i12 => (∀ (w13 : World), u1 w13 → Value.pointer (some a) = Value.pointer (some a) ∧ w13 = w13) ∧ (∀ (w15 : World), u1 w15 → Value.pointer (some a) = Value.pointer (some a) ∧ w15 = w15) ∧ (∀ (w17 : World), u1 w17 → Value.pointer (some (Addr.add a (3 : Nat))) = Value.pointer (some (Addr.add a (3 : Nat))) ∧ w17 = w17) ∧ (∀ (w19 : World), u1 w19 → Value.slice bp bn bc = Value.slice bp bn bc ∧ w19 = w19) ∧ (callV Tryd.prog (37 : Nat) [Value.pointer (some (Addr.add a (3 : Nat)))] (World.drew w) fun v21 w22 => isB v21 fun t23 => u1 w22 ∧ (callV Tryd.prog (38 : Nat) [Value.slice bp bn bc] w22 fun v24 w25 => isSl v24 fun o26 n27 n28 => u1 w25 ∧ (∀ (w29 : World), u1 w29 → Value.agg #[Value.int IntKind.u16 i12, Value.bool t23, Value.int IntKind.u16 (0 : Int), Value.int IntKind.u32 (0 : Int), Value.slice o26 n27 n28] = Value.agg #[Value.int IntKind.u16 i12, Value.bool t23, Value.int IntKind.u16 (0 : Int), Value.int IntKind.u32 (0 : Int), Value.slice o26 n27 n28] ∧ w29 = w29) ∧ allocC w25 (Obj.cells #[Value.int IntKind.u16 (0 : Int), Value.bool false, Value.int IntKind.u16 (0 : Int), Value.int IntKind.u32 (0 : Int), Value.slice none (0 : Nat) (0 : Nat)] (32 : Nat)) fun n31 w32 => u1 w32 ∧ stC w32 { block := n31, off := (0 : Nat) : Addr } [Value.int IntKind.u16 i12, Value.bool t23, Value.int IntKind.u16 (0 : Int), Value.int IntKind.u32 (0 : Int), Value.slice o26 n27 n28] fun w33 => u0 (alist [((8 : Nat), Value.pointer (some { block := n31, off := (0 : Nat) : Addr }))]) w33) ∧ allocC w22 (Obj.cells #[Value.int IntKind.u16 (0 : Int), Value.bool false, Value.int IntKind.u16 (0 : Int), Value.int IntKind.u32 (0 : Int), Value.slice none (0 : Nat) (0 : Nat)] (32 : Nat)) fun n34 w35 => u1 w35 ∧ callV Tryd.prog (38 : Nat) [Value.slice bp bn bc] w35 fun v36 w37 => isSl v36 fun o38 n39 n40 => u1 w37 ∧ (∀ (w41 : World), u1 w41 → Value.agg #[Value.int IntKind.u16 i12, Value.bool t23, Value.int IntKind.u16 (0 : Int), Value.int IntKind.u32 (0 : Int), Value.slice o38 n39 n40] = Value.agg #[Value.int IntKind.u16 i12, Value.bool t23, Value.int IntKind.u16 (0 : Int), Value.int IntKind.u32 (0 : Int), Value.slice o38 n39 n40] ∧ w41 = w41) ∧ stC w37 { block := n34, off := (0 : Nat) : Addr } [Value.int IntKind.u16 i12, Value.bool t23, Value.int IntKind.u16 (0 : Int), Value.int IntKind.u32 (0 : Int), Value.slice o38 n39 n40] fun w43 => u0 (alist [((8 : Nat), Value.pointer (some { block := n34, off := (0 : Nat) : Addr }))]) w43) ∧ allocC (World.drew w) (Obj.cells #[Value.int IntKind.u16 (0 : Int), Value.bool false, Value.int IntKind.u16 (0 : Int), Value.int IntKind.u32 (0 : Int), Value.slice none (0 : Nat) (0 : Nat)] (32 : Nat)) fun n44 w45 => u1 w45 ∧ callV Tryd.prog (37 : Nat) [Value.pointer (some (Addr.add a (3 : Nat)))] w45 fun v46 w47 => isB v46 fun t48 => u1 w47 ∧ callV Tryd.prog (38 : Nat) [Value.slice bp bn bc] w47 fun v49 w50 => isSl v49 fun o51 n52 n53 => u1 w50 ∧ (∀ (w54 : World), u1 w54 → Value.agg #[Value.int IntKind.u16 i12, Value.bool t48, Value.int IntKind.u16 (0 : Int), Value.int IntKind.u32 (0 : Int), Value.slice o51 n52 n53] = Value.agg #[Value.int IntKind.u16 i12, Value.bool t48, Value.int IntKind.u16 (0 : Int), Value.int IntKind.u32 (0 : Int), Value.slice o51 n52 n53] ∧ w54 = w54) ∧ stC w50 { block := n44, off := (0 : Nat) : Addr } [Value.int IntKind.u16 i12, Value.bool t48, Value.int IntKind.u16 (0 : Int), Value.int IntKind.u32 (0 : Int), Value.slice o51 n52 n53] fun w56 => u0 (alist [((8 : Nat), Value.pointer (some { block := n44, off := (0 : Nat) : Addr }))]) w56) fun u57 => ∀ (u58 : Nat → Value) (w59 : World), u57 (alist [((8 : Nat), u58 (8 : Nat))]) w59 → cutC (fun u61 => isPtr (u58 (8 : Nat)) fun a62 => rd (World.cell? w59 (Addr.add a62 (1 : Nat))) fun v63 => isB v63 fun t64 => br t64 (callV Tryd.prog (39 : Nat) [Value.pointer (some (Addr.add a (3 : Nat)))] w59 fun v65 w66 => isTup v65 fun l67 => rd l67[(0 : Nat)]? fun v68 => isK IntKind.u16 v68 fun i69 => isTup v65 fun l70 => rd l70[(1 : Nat)]? fun v71 => isK IntKind.u32 v71 fun i72 => isPtr (u58 (8 : Nat)) fun a73 => stC w66 (Addr.add a73 (2 : Nat)) [Value.int IntKind.u16 i69] fun w74 => isPtr (u58 (8 : Nat)) fun a75 => stC w74 (Addr.add a75 (3 : Nat)) [Value.int IntKind.u32 i72] fun w76 => u61 (alist []) w76) (u61 (alist []) w59)) fun u77 => ∀ (u78 : Nat → Value) (w79 : World), u77 (alist []) w79 → isPtr (u58 (8 : Nat)) fun a81 => rd (cellsAt w79 a81 (5 : Nat)) fun l82 => callV Tryd.prog (10 : Nat) [Value.agg (List.toArray l82)] w79 fun v83 w84 => isTup v83 fun l85 => rd l85[(0 : Nat)]? fun v86 => isSl v86 fun o87 n88 n89 => isTup v83 fun l90 => rd l90[(1 : Nat)]? fun v91 => isK IntKind.i64 v91 fun i92 => br (!decide (i92 = (0 : Int))) (R (Value.tuple #[Value.slice none (0 : Nat) (0 : Nat), Value.int IntKind.i64 i92]) w84) (rd (World.cell? w84 a) fun v93 => isK IntKind.u16 v93 fun i94 => allocC w84 (Obj.cells #[Value.int IntKind.u16 (0 : Int), Value.int IntKind.u32 (0 : Int), Value.slice none (0 : Nat) (0 : Nat)] (97 : Nat)) fun n95 w96 => stC w96 { block := n95, off := (0 : Nat) : Addr } [Value.int IntKind.u16 i94, Value.int IntKind.u32 c, Value.slice none (0 : Nat) (0 : Nat)] fun w97 => cutC (fun u98 => rd (World.cell? w97 (Addr.add a (1 : Nat))) fun v99 => isSl v99 fun o100 n101 n102 => loopC (alist [((9 : Nat), Value.slice o87 n88 n89), ((57 : Nat), Value.int IntKind.i64 (0 : Int))]) w97 fun u103 u104 => ∀ (u105 : Nat → Value) (w106 : World), u103 (alist [((9 : Nat), u105 (9 : Nat)), ((57 : Nat), u105 (57 : Nat))]) w106 → rd (orO (binV BinOp.lss (u105 (57 : Nat)) (Value.int IntKind.i64 (↑n101 : Int))) none) fun v108 => isB v108 fun t109 => br t109 (isInt (u105 (57 : Nat)) fun k110 i111 => rd o100 fun a112 => ((0 : Int) ≤ i111 ∧ i111 < (↑n101 : Int)) ∧ rd (World.cell? w106 (Addr.add a112 (Int.toNat i111 * (1 : Nat)))) fun v113 => isP v113 fun o114 => heldC (World.drew w106) fun u115 => isPtr (u58 (8 : Nat)) fun a116 => (∀ (w117 : World), u115 w117 → isPtr (u58 (8 : Nat)) fun a119 => Value.pointer (some (Addr.add a119 (4 : Nat))) = Value.pointer (some (Addr.add a116 (4 : Nat))) ∧ w117 = w117) ∧ rd (World.cell? (World.drew w106) (Addr.add a116 (4 : Nat))) fun v120 => (∀ (w121 : World), u115 w121 → rd (World.cell? w121 (Addr.add a116 (4 : Nat))) fun v123 => v123 = v120 ∧ w121 = w121) ∧ isSl v120 fun o124 n125 n126 => (∀ (w127 : World), u115 w127 → Value.pointer o114 = Value.pointer o114 ∧ w127 = w127) ∧ rd (nilChk (Value.pointer o114)) fun v129 => (∀ (w130 : World), u115 w130 → rd (nilChk (Value.pointer o114)) fun v132 => v132 = v129 ∧ w130 = w130) ∧ isPtr v129 fun a133 => (∀ (w134 : World), u115 w134 → isPtr v129 fun a136 => Value.pointer (some a136) = Value.pointer (some a133) ∧ w134 = w134) ∧ rd (cellsAt (World.drew w106) a133 (23 : Nat)) fun l137 => (∀ (w138 : World), u115 w138 → rd (cellsAt w138 a133 (23 : Nat)) fun l140 => Value.agg (List.toArray l140) = Value.agg (List.toArray l137) ∧ w138 = w138) ∧ runs Tryd.prog (Instr.buildSlice (24 : Nat) (1 : Nat) #[((0 : Nat), Value.agg (List.toArray l137))]) (World.drew w106) fun v141 w142 => isSl v141 fun o143 n144 n145 => u115 w142 ∧ runs Tryd.prog (Builtin.append_ #[(24 : Nat), (24 : Nat)] (24 : Nat) #[Value.slice o124 n125 n126, Value.slice o143 n144 n145]) w142 fun v146 w147 => isSl v146 fun o148 n149 n150 => u115 w147 ∧ isPtr (u58 (8 : Nat)) fun a151 => stC w147 (Addr.add a151 (4 : Nat)) [Value.slice o148 n149 n150] fun w152 => isPtr (u58 (8 : Nat)) fun a153 => rd (cellsAt w152 a153 (5 : Nat)) fun l154 => callV Tryd.prog (10 : Nat) [Value.agg (List.toArray l154)] w152 fun v155 w156 => isTup v155 fun l157 => rd l157[(0 : Nat)]? fun v158 => isSl v158 fun o159 n160 n161 => isTup v155 fun l162 => rd l162[(1 : Nat)]? fun v163 => isK IntKind.i64 v163 fun i164 => br (!decide (i164 = (0 : Int))) (u98 (alist [((9 : Nat), u105 (9 : Nat))]) w156) (rd (World.cell? w156 { block := n95, off := (2 : Nat) : Addr }) fun v165 => isSl v165 fun o166 n167 n168 => runs Tryd.prog (Instr.buildSlice (74 : Nat) (1 : Nat) #[((0 : Nat), Value.pointer o114)]) w156 fun v169 w170 => isSl v169 fun o171 n172 n173 => runs Tryd.prog (Builtin.append_ #[(74 : Nat), (74 : Nat)] (74 : Nat) #[Value.slice o166 n167 n168, Value.slice o171 n172 n173]) w170 fun v174 w175 => isSl v174 fun o176 n177 n178 => stC w175 { block := n95, off := (2 : Nat) : Addr } [Value.slice o176 n177 n178] fun w179 => rd (orO (binV BinOp.add (u105 (57 : Nat)) (Value.int IntKind.i64 (1 : Int))) none) fun v180 => isK IntKind.i64 v180 fun i181 => again u103 u104 (alist [((9 : Nat), Value.slice o159 n160 n161), ((57 : Nat), Value.int IntKind.i64 i181)]) w179 (alist [((9 : Nat), u105 (9 : Nat)), ((57 : Nat), u105 (57 : Nat))]) w106)) (u98 (alist [((9 : Nat), u105 (9 : Nat))]) w106)) fun u182 => ∀ (u183 : Nat → Value) (w184 : World), u182 (alist [((9 : Nat), u183 (9 : Nat))]) w184 → heldC (World.drew w184) fun u186 => (∀ (w187 : World), u186 w187 → Value.pointer (some a) = Value.pointer (some a) ∧ w187 = w187) ∧ (∀ (w189 : World), u186 w189 → Value.pointer (some a) = Value.pointer (some a) ∧ w189 = w189) ∧ (∀ (w191 : World), u186 w191 → Value.pointer (some a) = Value.pointer (some a) ∧ w191 = w191) ∧ (∀ (w193 : World), u186 w193 → Value.pointer (some (Addr.add a (2 : Nat))) = Value.pointer (some (Addr.add a (2 : Nat))) ∧ w193 = w193) ∧ rd (World.cell? (World.drew w184) (Addr.add a (2 : Nat))) fun v195 => (∀ (w196 : World), u186 w196 → rd (World.cell? w196 (Addr.add a (2 : Nat))) fun v198 => v198 = v195 ∧ w196 = w196) ∧ isSl v195 fun o199 n200 n201 => rd (cellsAt (World.drew w184) { block := n95, off := (0 : Nat) : Addr } (3 : Nat)) fun l202 => (∀ (w203 : World), u186 w203 → rd (cellsAt w203 { block := n95, off := (0 : Nat) : Addr } (3 : Nat)) fun l205 => Value.agg (List.toArray l205) = Value.agg (List.toArray l202) ∧ w203 = w203) ∧ runs Tryd.prog (Instr.buildSlice (75 : Nat) (1 : Nat) #[((0 : Nat), Value.agg (List.toArray l202))]) (World.drew w184) fun v206 w207 => isSl v206 fun o208 n209 n210 => u186 w207 ∧ runs Tryd.prog (Builtin.append_ #[(75 : Nat), (75 : Nat)] (75 : Nat) #[Value.slice o199 n200 n201, Value.slice o208 n209 n210]) w207 fun v211 w212 => isSl v211 fun o213 n214 n215 => u186 w212 ∧ stC w212 (Addr.add a (2 : Nat)) [Value.slice o213 n214 n215] fun w216 => heldC (World.drew w216) fun u217 => (∀ (w218 : World), u217 w218 → Value.pointer (some a) = Value.pointer (some a) ∧ w218 = w218) ∧ (∀ (w220 : World), u217 w220 → Value.pointer (some a) = Value.pointer (some a) ∧ w220 = w220) ∧ (∀ (w222 : World), u217 w222 → Value.pointer (some a) = Value.pointer (some a) ∧ w222 = w222) ∧ (∀ (w224 : World), u217 w224 → Value.pointer (some (Addr.add a (2 : Nat))) = Value.pointer (some (Addr.add a (2 : Nat))) ∧ w224 = w224) ∧ rd (World.cell? (World.drew w216) (Addr.add a (2 : Nat))) fun v226 => (∀ (w227 : World), u217 w227 → rd (World.cell? w227 (Addr.add a (2 : Nat))) fun v229 => v229 = v226 ∧ w227 = w227) ∧ isSl v226 fun o230 n231 n232 => (∀ (w233 : World), u217 w233 → Value.pointer (some a) = Value.pointer (some a) ∧ w233 = w233) ∧ (∀ (w235 : World), u217 w235 → Value.pointer (some a) = Value.pointer (some a) ∧ w235 = w235) ∧ (∀ (w237 : World), u217 w237 → Value.pointer (some (Addr.add a (2 : Nat))) = Value.pointer (some (Addr.add a (2 : Nat))) ∧ w237 = w237) ∧ rd (World.cell? (World.drew w216) (Addr.add a (2 : Nat))) fun v239 => (∀ (w240 : World), u217 w240 → rd (World.cell? w240 (Addr.add a (2 : Nat))) fun v242 => v242 = v239 ∧ w240 = w240) ∧ isSl v239 fun o243 n244 n245 => (∀ (w246 : World), u217 w246 → Value.int IntKind.i64 (↑n244 : Int) = Value.int IntKind.i64 (↑n244 : Int) ∧ w246 = w246) ∧ (∀ (w248 : World), u217 w248 → Value.int IntKind.i64 (IntKind.wrap IntKind.i64 ((↑n244 : Int) - (64 : Int))) = Value.int IntKind.i64 (IntKind.wrap IntKind.i64 ((↑n244 : Int) - (64 : Int))) ∧ w248 = w248) ∧ (∀ (w250 : World), u217 w250 → Value.int IntKind.i64 (max (0 : Int) (IntKind.wrap IntKind.i64 ((↑n244 : Int) - (64 : Int)))) = Value.int IntKind.i64 (max (0 : Int) (IntKind.wrap IntKind.i64 ((↑n244 : Int) - (64 : Int)))) ∧ w250 = w250) ∧ runs Tryd.prog (Instr.sliceAt (75 : Nat) (Value.slice o230 n231 n232) (some (Value.int IntKind.i64 (max (0 : Int) (IntKind.wrap IntKind.i64 ((↑n244 : Int) - (64 : Int)))))) none none) (World.drew w216) fun v252 w253 => (∀ (w254 : World), u217 w254 → runs Tryd.prog (Instr.sliceAt (75 : Nat) (Value.slice o230 n231 n232) (some (Value.int IntKind.i64 (max (0 : Int) (IntKind.wrap IntKind.i64 ((↑n244 : Int) - (64 : Int)))))) none none) w254 fun v256 w257 => v256 = v252 ∧ w257 = w254) ∧ isSl v252 fun o258 n259 n260 => stC (World.drew w216) (Addr.add a (2 : Nat)) [Value.slice o258 n259 n260] fun w261 => rd (World.cell? w261 a) fun v262 => isK IntKind.u16 v262 fun i263 => stC w261 a [Value.int IntKind.u16 (IntKind.wrap IntKind.u16 (i263 + (1 : Int)))] fun w264 => isSl (u183 (9 : Nat)) fun o265 n266 n267 => R (Value.tuple #[Value.slice o265 n266 n267, Value.int IntKind.i64 (0 : Int)]) w264)) :
  callV Tryd.prog 17 [Value.pointer (some a), Value.slice bp bn bc, Value.int IntKind.u32 c] w R :=
  vc_of hm ⟨fun n => match n with | 2 => true | 4 => true | 16 => true | _ => false, fun n => match n with | 1 => .take 0 (.take 1 (.take 2 (.take 3 (.take 4 (.take 5 (.take 6 (.take 8 (.two 7 (.two 9 (.take 10 (.one 11 (.last 12 (.done)))) 11 (.one 9 (.take 10 (.last 12 (.done))))) 11 (.one 7 (.one 9 (.take 10 (.last 12 (.done))))))))))))) | 11 => .take 0 (.take 1 (.take 2 (.take 3 (.take 4 (.take 5 (.one 6 (.one 7 (.last 8 (.last 9 (.done)))))))))) | 16 => .take 0 (.take 1 (.take 2 (.take 3 (.take 4 (.take 5 (.one 6 (.one 7 (.last 8 (.last 9 (.last 10 (.done))))))))))) | 17 => .take 0 (.take 1 (.take 2 (.take 3 (.take 4 (.take 5 (.take 6 (.take 7 (.take 8 (.take 9 (.take 10 (.take 11 (.take 12 (.last 13 (.last 14 (.last 15 (.done)))))))))))))))) | _ => .done, fun n => match n with | 2 => [8] | 4 => [] | 16 => [9] | 9 => [9, 57] | _ => []⟩ Tryd.func17 ent17 (by kernel_rfl) h

end Go.Proofs.YtipikchkbmgloaaDoor
