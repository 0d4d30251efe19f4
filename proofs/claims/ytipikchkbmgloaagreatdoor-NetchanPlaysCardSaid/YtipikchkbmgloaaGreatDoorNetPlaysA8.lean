/- What NetPlays needs, part 8 of 13: F0 RWin RAcc D0 RTx D1 RRt RBi REn DgR D2 RRd D3 RMs Reads.  Conditions: as each part says. -/
import Derived.Test.YtipikchkbmgloaaGreatDoorNetPlaysA7
namespace Go.Proofs.YtipikchkbmgloaaGreatDoor
set_option linter.unusedSimpArgs false
set_option linter.unusedVariables false
open Go VC
theorem vc69 (a : Int) (b : Int) (w : World) (R : Value → World → Prop)
 (h : br (decide ((32767 : Int) < IntKind.wrap IntKind.i64 (IntKind.wrap IntKind.i64 a - IntKind.wrap IntKind.i64 b))) (R (Value.int IntKind.i64 (IntKind.wrap IntKind.i64 (IntKind.wrap IntKind.i64 (IntKind.wrap IntKind.i64 a - IntKind.wrap IntKind.i64 b) - (65536 : Int)))) w) (br (decide (IntKind.wrap IntKind.i64 (IntKind.wrap IntKind.i64 a - IntKind.wrap IntKind.i64 b) < (-32768 : Int))) (R (Value.int IntKind.i64 (IntKind.wrap IntKind.i64 (IntKind.wrap IntKind.i64 (IntKind.wrap IntKind.i64 a - IntKind.wrap IntKind.i64 b) + (65536 : Int)))) w) (R (Value.int IntKind.i64 (IntKind.wrap IntKind.i64 (IntKind.wrap IntKind.i64 a - IntKind.wrap IntKind.i64 b))) w))) :
 callV Tryz.prog 69 [Value.int IntKind.u16 a, Value.int IntKind.u16 b] w R :=
 vc_of hm noHints Tryz.func69 ent69 (by kernel_rfl) h
theorem vc57 (a : Addr) (b : Int) (w : World) (R : Value → World → Prop)
 (h : loopC (alist [((5 : Nat), Value.int IntKind.i64 (0 : Int))]) w fun u0 u1 => ∀ (u2 : Nat → Value) (w3 : World), u0 (alist [((5 : Nat), u2 (5 : Nat))]) w3 → isK IntKind.i64 (u2 (5 : Nat)) fun i5 => rd (World.cell? w3 (Addr.add a (2 : Nat))) fun v6 => isSl v6 fun o7 n8 n9 => br (decide (i5 < (↑n8 : Int))) (rd (World.cell? w3 (Addr.add a (2 : Nat))) fun v10 => isSl v10 fun o11 n12 n13 => isK IntKind.i64 (u2 (5 : Nat)) fun i14 => rd o11 fun a15 => ((0 : Int) ≤ i14 ∧ i14 < (↑n12 : Int)) ∧ rd (World.cell? w3 (Addr.add a15 (Int.toNat i14 * (1 : Nat)))) fun v16 => isK IntKind.u16 v16 fun i17 => br (decide (i17 = b)) (R (Value.bool true) w3) (isK IntKind.i64 (u2 (5 : Nat)) fun i18 => again u0 u1 (alist [((5 : Nat), Value.int IntKind.i64 (IntKind.wrap IntKind.i64 (i18 + (1 : Int))))]) w3 (alist [((5 : Nat), u2 (5 : Nat))]) w3)) (R (Value.bool false) w3)) :
 callV Tryz.prog 57 [Value.pointer (some a), Value.int IntKind.u16 b] w R :=
 vc_of hm ⟨fun _ => false, fun _ => .done, fun n => match n with | 2 => [5] | _ => []⟩ Tryz.func57 ent57 (by kernel_rfl) h
theorem vc41 (ap : Option Addr) (an : Nat) (ac : Nat) (b : Int) (w : World) (R : Value → World → Prop)
 (h : loopC (alist [((5 : Nat), Value.int IntKind.i64 (0 : Int))]) w fun u0 u1 => ∀ (u2 : Nat → Value) (w3 : World), u0 (alist [((5 : Nat), u2 (5 : Nat))]) w3 → isK IntKind.i64 (u2 (5 : Nat)) fun i5 => br (decide (i5 < (↑an : Int))) (isK IntKind.i64 (u2 (5 : Nat)) fun i6 => rd ap fun a7 => ((0 : Int) ≤ i6 ∧ i6 < (↑an : Int)) ∧ rd (World.cell? w3 (Addr.add a7 (Int.toNat i6 * (1 : Nat)))) fun v8 => isK IntKind.i64 v8 fun i9 => br (decide (i9 = b)) (R (Value.bool true) w3) (isK IntKind.i64 (u2 (5 : Nat)) fun i10 => again u0 u1 (alist [((5 : Nat), Value.int IntKind.i64 (IntKind.wrap IntKind.i64 (i10 + (1 : Int))))]) w3 (alist [((5 : Nat), u2 (5 : Nat))]) w3)) (R (Value.bool false) w3)) :
 callV Tryz.prog 41 [Value.slice ap an ac, Value.int IntKind.i64 b] w R :=
 vc_of hm ⟨fun _ => false, fun _ => .done, fun n => match n with | 2 => [5] | _ => []⟩ Tryz.func41 ent41 (by kernel_rfl) h
theorem vc40 (a : Int) (b : Int) (c : Int) (w : World) (R : Value → World → Prop)
 (h : br (decide (c = a)) (R (Value.bool true) w) (loopC (alist [((7 : Nat), Value.int IntKind.i64 (0 : Int))]) w fun u0 u1 => ∀ (u2 : Nat → Value) (w3 : World), u0 (alist [((7 : Nat), u2 (7 : Nat))]) w3 → isK IntKind.i64 (u2 (7 : Nat)) fun i5 => br (decide (i5 < (32 : Int))) (isK IntKind.i64 (u2 (7 : Nat)) fun i6 => br (decide (IntKind.wrap IntKind.u16 (a - IntKind.wrap IntKind.u16 (IntKind.wrap IntKind.i64 (i6 + (1 : Int)))) = c)) (isK IntKind.i64 (u2 (7 : Nat)) fun i7 => rd (orO (binV BinOp.shl (Value.int IntKind.u32 (1 : Int)) (Value.int IntKind.u64 (IntKind.wrap IntKind.u64 i7))) none) fun v8 => isK IntKind.u32 v8 fun i9 => rd (orO (binV BinOp.quo (Value.int IntKind.u32 b) (Value.int IntKind.u32 i9)) none) fun v10 => isK IntKind.u32 v10 fun i11 => R (Value.bool (decide (Int.tmod i11 (2 : Int) = (1 : Int)))) w3) (isK IntKind.i64 (u2 (7 : Nat)) fun i12 => again u0 u1 (alist [((7 : Nat), Value.int IntKind.i64 (IntKind.wrap IntKind.i64 (i12 + (1 : Int))))]) w3 (alist [((7 : Nat), u2 (7 : Nat))]) w3)) (R (Value.bool false) w3))) :
 callV Tryz.prog 40 [Value.int IntKind.u16 a, Value.int IntKind.u32 b, Value.int IntKind.u16 c] w R :=
 vc_of hm ⟨fun _ => false, fun _ => .done, fun n => match n with | 4 => [7] | _ => []⟩ Tryz.func40 ent40 (by kernel_rfl) h
theorem vc28 (a : Addr) (w : World) (R : Value → World → Prop)
 (h : loopC (alist [((4 : Nat), Value.int IntKind.u32 (0 : Int)), ((5 : Nat), Value.int IntKind.i64 (0 : Int))]) w fun u0 u1 => ∀ (u2 : Nat → Value) (w3 : World), u0 (alist [((4 : Nat), u2 (4 : Nat)), ((5 : Nat), u2 (5 : Nat))]) w3 → isK IntKind.i64 (u2 (5 : Nat)) fun i5 => br (decide (i5 < (32 : Int))) (rd (World.cell? w3 a) fun v6 => isB v6 fun t7 => br t7 (rd (World.cell? w3 (Addr.add a (1 : Nat))) fun v8 => isK IntKind.u16 v8 fun i9 => isK IntKind.i64 (u2 (5 : Nat)) fun i10 => callV Tryz.prog (57 : Nat) [Value.pointer (some a), Value.int IntKind.u16 (IntKind.wrap IntKind.u16 (i9 - IntKind.wrap IntKind.u16 (IntKind.wrap IntKind.i64 (i10 + (1 : Int)))))] w3 fun v11 w12 => isB v11 fun t13 => br t13 (isK IntKind.u32 (u2 (4 : Nat)) fun i14 => isK IntKind.i64 (u2 (5 : Nat)) fun i15 => rd (orO (binV BinOp.shl (Value.int IntKind.u32 (1 : Int)) (Value.int IntKind.u64 (IntKind.wrap IntKind.u64 i15))) none) fun v16 => isK IntKind.u32 v16 fun i17 => isK IntKind.i64 (u2 (5 : Nat)) fun i18 => again u0 u1 (alist [((4 : Nat), Value.int IntKind.u32 (IntKind.wrap IntKind.u32 (i14 + i17))), ((5 : Nat), Value.int IntKind.i64 (IntKind.wrap IntKind.i64 (i18 + (1 : Int))))]) w12 (alist [((4 : Nat), u2 (4 : Nat)), ((5 : Nat), u2 (5 : Nat))]) w3) (isK IntKind.i64 (u2 (5 : Nat)) fun i19 => again u0 u1 (alist [((4 : Nat), u2 (4 : Nat)), ((5 : Nat), Value.int IntKind.i64 (IntKind.wrap IntKind.i64 (i19 + (1 : Int))))]) w12 (alist [((4 : Nat), u2 (4 : Nat)), ((5 : Nat), u2 (5 : Nat))]) w3)) (rd (World.cell? w3 (Addr.add a (1 : Nat))) fun v20 => isK IntKind.u16 v20 fun i21 => isK IntKind.u32 (u2 (4 : Nat)) fun i22 => R (Value.tuple #[Value.int IntKind.u16 i21, Value.int IntKind.u32 i22]) w3)) (rd (World.cell? w3 (Addr.add a (1 : Nat))) fun v23 => isK IntKind.u16 v23 fun i24 => isK IntKind.u32 (u2 (4 : Nat)) fun i25 => R (Value.tuple #[Value.int IntKind.u16 i24, Value.int IntKind.u32 i25]) w3)) :
 callV Tryz.prog 28 [Value.pointer (some a)] w R :=
 vc_of hm ⟨fun _ => false, fun _ => .done, fun n => match n with | 3 => [4, 5] | _ => []⟩ Tryz.func28 ent28 (by kernel_rfl) h
theorem vc39 (a : Addr) (b : Int) (w : World) (R : Value → World → Prop)
 (h : rd (World.cell? w (Addr.add a (1 : Nat))) fun v0 => isK IntKind.u16 v0 fun i1 => callV Tryz.prog (69 : Nat) [Value.int IntKind.u16 b, Value.int IntKind.u16 i1] w fun v2 w3 => isK IntKind.i64 v2 fun i4 => cutC (fun u5 => rd (World.cell? w3 a) fun v6 => isB v6 fun t7 => br t7 (br (decide (i4 ≤ (0 : Int))) (callV Tryz.prog (57 : Nat) [Value.pointer (some a), Value.int IntKind.u16 b] w3 fun v8 w9 => isB v8 fun t10 => br (decide (i4 < (-32 : Int))) (R (Value.bool false) w9) (br t10 (R (Value.bool false) w9) (u5 (alist []) w9))) (stC w3 (Addr.add a (1 : Nat)) [Value.int IntKind.u16 b] fun w11 => u5 (alist []) w11)) (stC w3 (Addr.add a (1 : Nat)) [Value.int IntKind.u16 b] fun w12 => u5 (alist []) w12)) fun u13 => ∀ (u14 : Nat → Value) (w15 : World), u13 (alist []) w15 → stC w15 a [Value.bool true] fun w17 => runs Tryz.prog (Instr.buildSlice (71 : Nat) (1 : Nat) #[((0 : Nat), Value.int IntKind.u16 b)]) w17 fun v18 w19 => isSl v18 fun o20 n21 n22 => loopC (alist [((7 : Nat), Value.slice o20 n21 n22), ((8 : Nat), Value.int IntKind.i64 (0 : Int))]) w19 fun u23 u24 => ∀ (u25 : Nat → Value) (w26 : World), u23 (alist [((7 : Nat), u25 (7 : Nat)), ((8 : Nat), u25 (8 : Nat))]) w26 → isK IntKind.i64 (u25 (8 : Nat)) fun i28 => rd (World.cell? w26 (Addr.add a (2 : Nat))) fun v29 => isSl v29 fun o30 n31 n32 => br (decide (i28 < (↑n31 : Int))) (cutC (fun u33 => cutC (fun u34 => heldC (World.drew w26) fun u35 => (∀ (w36 : World), u35 w36 → Value.pointer (some a) = Value.pointer (some a) ∧ w36 = w36) ∧ (∀ (w38 : World), u35 w38 → Value.pointer (some a) = Value.pointer (some a) ∧ w38 = w38) ∧ (∀ (w40 : World), u35 w40 → Value.pointer (some (Addr.add a (1 : Nat))) = Value.pointer (some (Addr.add a (1 : Nat))) ∧ w40 = w40) ∧ rd (World.cell? (World.drew w26) (Addr.add a (1 : Nat))) fun v42 => (∀ (w43 : World), u35 w43 → rd (World.cell? w43 (Addr.add a (1 : Nat))) fun v45 => v45 = v42 ∧ w43 = w43) ∧ isK IntKind.u16 v42 fun i46 => (∀ (w47 : World), u35 w47 → Value.pointer (some a) = Value.pointer (some a) ∧ w47 = w47) ∧ (∀ (w49 : World), u35 w49 → Value.pointer (some a) = Value.pointer (some a) ∧ w49 = w49) ∧ (∀ (w51 : World), u35 w51 → Value.pointer (some (Addr.add a (2 : Nat))) = Value.pointer (some (Addr.add a (2 : Nat))) ∧ w51 = w51) ∧ rd (World.cell? (World.drew w26) (Addr.add a (2 : Nat))) fun v53 => (∀ (w54 : World), u35 w54 → rd (World.cell? w54 (Addr.add a (2 : Nat))) fun v56 => v56 = v53 ∧ w54 = w54) ∧ isSl v53 fun o57 n58 n59 => (∀ (w60 : World), u35 w60 → u25 (8 : Nat) = u25 (8 : Nat) ∧ w60 = w60) ∧ isK IntKind.i64 (u25 (8 : Nat)) fun i62 => rd o57 fun a63 => ((0 : Int) ≤ i62 ∧ i62 < (↑n58 : Int)) ∧ (∀ (w64 : World), u35 w64 → rd o57 fun a66 => ((0 : Int) ≤ i62 ∧ i62 < (↑n58 : Int)) ∧ Value.pointer (some (Addr.add a66 (Int.toNat i62 * (1 : Nat)))) = Value.pointer (some (Addr.add a63 (Int.toNat i62 * (1 : Nat)))) ∧ w64 = w64) ∧ rd (World.cell? (World.drew w26) (Addr.add a63 (Int.toNat i62 * (1 : Nat)))) fun v67 => (∀ (w68 : World), u35 w68 → rd (World.cell? w68 (Addr.add a63 (Int.toNat i62 * (1 : Nat)))) fun v70 => v70 = v67 ∧ w68 = w68) ∧ isK IntKind.u16 v67 fun i71 => callV Tryz.prog (69 : Nat) [Value.int IntKind.u16 i46, Value.int IntKind.u16 i71] (World.drew w26) fun v72 w73 => isK IntKind.i64 v72 fun i74 => u35 w73 ∧ (∀ (w75 : World), u35 w75 → Value.int IntKind.i64 i74 = Value.int IntKind.i64 i74 ∧ w75 = w75) ∧ u34 (alist [((9 : Nat), Value.int IntKind.i64 i74)]) w73) fun u77 => ∀ (u78 : Nat → Value) (w79 : World), u77 (alist [((9 : Nat), u78 (9 : Nat))]) w79 → isK IntKind.i64 (u78 (9 : Nat)) fun i81 => br (decide ((0 : Int) ≤ i81)) (isK IntKind.i64 (u78 (9 : Nat)) fun i82 => br (decide (i82 ≤ (32 : Int))) (isSl (u25 (7 : Nat)) fun o83 n84 n85 => rd (World.cell? w79 (Addr.add a (2 : Nat))) fun v86 => isSl v86 fun o87 n88 n89 => isK IntKind.i64 (u25 (8 : Nat)) fun i90 => rd o87 fun a91 => ((0 : Int) ≤ i90 ∧ i90 < (↑n88 : Int)) ∧ rd (World.cell? w79 (Addr.add a91 (Int.toNat i90 * (1 : Nat)))) fun v92 => isK IntKind.u16 v92 fun i93 => runs Tryz.prog (Instr.buildSlice (71 : Nat) (1 : Nat) #[((0 : Nat), Value.int IntKind.u16 i93)]) w79 fun v94 w95 => isSl v94 fun o96 n97 n98 => runs Tryz.prog (Builtin.append_ #[(71 : Nat), (71 : Nat)] (71 : Nat) #[Value.slice o83 n84 n85, Value.slice o96 n97 n98]) w95 fun v99 w100 => isSl v99 fun o101 n102 n103 => u33 (alist [((7 : Nat), Value.slice o101 n102 n103)]) w100) (u33 (alist [((7 : Nat), u25 (7 : Nat))]) w79)) (u33 (alist [((7 : Nat), u25 (7 : Nat))]) w79)) fun u104 => ∀ (u105 : Nat → Value) (w106 : World), u104 (alist [((7 : Nat), u105 (7 : Nat))]) w106 → isK IntKind.i64 (u25 (8 : Nat)) fun i108 => again u23 u24 (alist [((7 : Nat), u105 (7 : Nat)), ((8 : Nat), Value.int IntKind.i64 (IntKind.wrap IntKind.i64 (i108 + (1 : Int))))]) w106 (alist [((7 : Nat), u25 (7 : Nat)), ((8 : Nat), u25 (8 : Nat))]) w26) (isSl (u25 (7 : Nat)) fun o109 n110 n111 => stC w26 (Addr.add a (2 : Nat)) [Value.slice o109 n110 n111] fun w112 => R (Value.bool true) w112)) :
 callV Tryz.prog 39 [Value.pointer (some a), Value.int IntKind.u16 b] w R :=
 vc_of hm ⟨fun n => match n with | 7 => true | 11 => true | 13 => true | _ => false, fun n => match n with | 12 => .take 0 (.take 1 (.take 2 (.take 3 (.take 4 (.take 5 (.take 6 (.take 7 (.take 8 (.take 9 (.take 10 (.one 11 (.take 12 (.done))))))))))))) | _ => .done, fun n => match n with | 7 => [] | 10 => [7, 8] | 11 => [7] | 13 => [9] | _ => []⟩ Tryz.func39 ent39 (by kernel_rfl) h
theorem vc6 (w : World) (R : Value → World → Prop)
 (h : allocC w (Obj.cells #[Value.bool false, Value.int IntKind.u16 (0 : Int), Value.slice none (0 : Nat) (0 : Nat)] (73 : Nat)) fun n0 w1 => allocC w1 (Obj.cells #[Value.int IntKind.u16 (0 : Int), Value.int IntKind.i64 (0 : Int), Value.slice none (0 : Nat) (0 : Nat), Value.slice none (0 : Nat) (0 : Nat), Value.pointer (some { block := n0, off := (0 : Nat) : Addr }), Value.bool false, Value.int IntKind.i64 (0 : Int), Value.bool false, Value.int IntKind.u32 (0 : Int)] (63 : Nat)) fun n2 w3 => R (Value.pointer (some { block := n2, off := (0 : Nat) : Addr })) w3) :
 callV Tryz.prog 6 [] w R :=
 vc_of hm noHints Tryz.func6 ent6 (by kernel_rfl) h
theorem vc8 (a : Addr) (b0 : Int) (b1 : Int) (b20 : Int) (b21 : Int) (b22 : Int) (b23 : Int) (b24 : Int) (b3 : Int) (b4 : Int) (b5 : Int) (b60 : Int) (b61 : Int) (b62 : Int) (b7 : Int) (b80 : Int) (b81 : Int) (b82 : Int) (b90 : Int) (b91 : Int) (b92 : Int) (b10 : Int) (b11 : Int) (b12p : Option Addr) (b12n : Nat) (b12c : Nat) (w : World) (R : Value → World → Prop)
 (h : allocC w (Obj.cells #[Value.int IntKind.i64 b0, Value.int IntKind.u16 b1, Value.int IntKind.u16 b20, Value.int IntKind.u8 b21, Value.int IntKind.i8 b22, Value.int IntKind.i8 b23, Value.int IntKind.i64 b24, Value.int IntKind.u16 b3, Value.int IntKind.i64 b4, Value.int IntKind.i64 b5, Value.int IntKind.i64 b60, Value.int IntKind.i64 b61, Value.int IntKind.i64 b62, Value.int IntKind.i64 b7, Value.int IntKind.i64 b80, Value.int IntKind.i64 b81, Value.int IntKind.i64 b82, Value.int IntKind.i64 b90, Value.int IntKind.i64 b91, Value.int IntKind.i64 b92, Value.int IntKind.u32 b10, Value.int IntKind.u32 b11, Value.slice b12p b12n b12c] (41 : Nat)) fun n0 w1 => rd (cellsAt w1 { block := n0, off := (0 : Nat) : Addr } (23 : Nat)) fun l2 => callV Tryz.prog (19 : Nat) [Value.agg (List.toArray l2)] w1 fun v3 w4 => isB v3 fun t5 => br (!t5) (R (Value.int IntKind.i64 (1 : Int)) w4) (rd (World.cell? w4 (Addr.add a (2 : Nat))) fun v6 => isSl v6 fun o7 n8 n9 => br (decide ((64 : Int) ≤ (↑n8 : Int))) (R (Value.int IntKind.i64 (5 : Int)) w4) (heldC (World.drew w4) fun u10 => (∀ (w11 : World), u10 w11 → Value.pointer (some a) = Value.pointer (some a) ∧ w11 = w11) ∧ (∀ (w13 : World), u10 w13 → Value.pointer (some a) = Value.pointer (some a) ∧ w13 = w13) ∧ (∀ (w15 : World), u10 w15 → Value.pointer (some a) = Value.pointer (some a) ∧ w15 = w15) ∧ (∀ (w17 : World), u10 w17 → Value.pointer (some (Addr.add a (2 : Nat))) = Value.pointer (some (Addr.add a (2 : Nat))) ∧ w17 = w17) ∧ rd (World.cell? (World.drew w4) (Addr.add a (2 : Nat))) fun v19 => (∀ (w20 : World), u10 w20 → rd (World.cell? w20 (Addr.add a (2 : Nat))) fun v22 => v22 = v19 ∧ w20 = w20) ∧ isSl v19 fun o23 n24 n25 => (∀ (w26 : World), u10 w26 → Value.pointer (some a) = Value.pointer (some a) ∧ w26 = w26) ∧ (∀ (w28 : World), u10 w28 → Value.pointer (some a) = Value.pointer (some a) ∧ w28 = w28) ∧ (∀ (w30 : World), u10 w30 → Value.pointer (some (Addr.add a (1 : Nat))) = Value.pointer (some (Addr.add a (1 : Nat))) ∧ w30 = w30) ∧ rd (World.cell? (World.drew w4) (Addr.add a (1 : Nat))) fun v32 => (∀ (w33 : World), u10 w33 → rd (World.cell? w33 (Addr.add a (1 : Nat))) fun v35 => v35 = v32 ∧ w33 = w33) ∧ isK IntKind.i64 v32 fun i36 => rd (cellsAt (World.drew w4) { block := n0, off := (0 : Nat) : Addr } (23 : Nat)) fun l37 => (∀ (w38 : World), u10 w38 → rd (cellsAt w38 { block := n0, off := (0 : Nat) : Addr } (23 : Nat)) fun l40 => Value.agg (List.toArray l40) = Value.agg (List.toArray l37) ∧ w38 = w38) ∧ rd (gd (List.length l37 == (23 : Nat) && true)) fun _x => (∀ (w41 : World), u10 w41 → rd (gd (List.length l37 == (23 : Nat) && true)) fun _x => Value.agg (List.toArray (Value.int IntKind.i64 i36 :: List.append l37 [])) = Value.agg (List.toArray (Value.int IntKind.i64 i36 :: List.append l37 [])) ∧ w41 = w41) ∧ runs Tryz.prog (Instr.buildSlice (59 : Nat) (1 : Nat) #[((0 : Nat), Value.agg (List.toArray (Value.int IntKind.i64 i36 :: List.append l37 [])))]) (World.drew w4) fun v43 w44 => isSl v43 fun o45 n46 n47 => u10 w44 ∧ runs Tryz.prog (Builtin.append_ #[(59 : Nat), (59 : Nat)] (59 : Nat) #[Value.slice o23 n24 n25, Value.slice o45 n46 n47]) w44 fun v48 w49 => isSl v48 fun o50 n51 n52 => u10 w49 ∧ stC w49 (Addr.add a (2 : Nat)) [Value.slice o50 n51 n52] fun w53 => rd (World.cell? w53 (Addr.add a (1 : Nat))) fun v54 => isK IntKind.i64 v54 fun i55 => stC w53 (Addr.add a (1 : Nat)) [Value.int IntKind.i64 (IntKind.wrap IntKind.i64 (i55 + (1 : Int)))] fun w56 => R (Value.int IntKind.i64 (0 : Int)) w56))) :
 callV Tryz.prog 8 [Value.pointer (some a), Value.agg #[Value.int IntKind.i64 b0, Value.int IntKind.u16 b1, Value.int IntKind.u16 b20, Value.int IntKind.u8 b21, Value.int IntKind.i8 b22, Value.int IntKind.i8 b23, Value.int IntKind.i64 b24, Value.int IntKind.u16 b3, Value.int IntKind.i64 b4, Value.int IntKind.i64 b5, Value.int IntKind.i64 b60, Value.int IntKind.i64 b61, Value.int IntKind.i64 b62, Value.int IntKind.i64 b7, Value.int IntKind.i64 b80, Value.int IntKind.i64 b81, Value.int IntKind.i64 b82, Value.int IntKind.i64 b90, Value.int IntKind.i64 b91, Value.int IntKind.i64 b92, Value.int IntKind.u32 b10, Value.int IntKind.u32 b11, Value.slice b12p b12n b12c]] w R :=
 vc_of hm ⟨fun _ => false, fun n => match n with | 6 => .take 0 (.take 1 (.take 2 (.take 3 (.take 4 (.take 5 (.take 6 (.take 7 (.take 8 (.take 9 (.take 10 (.one 11 (.one 12 (.last 13 (.last 14 (.last 15 (.done)))))))))))))))) | _ => .done, fun _ => []⟩ Tryz.func8 ent8 (by kernel_rfl) h
theorem vc15 (a : Addr) (w : World) (R : Value → World → Prop)
 (h : heldC (World.drew w) fun u0 => (∀ (w1 : World), u0 w1 → Value.pointer (some a) = Value.pointer (some a) ∧ w1 = w1) ∧ (∀ (w3 : World), u0 w3 → Value.pointer (some a) = Value.pointer (some a) ∧ w3 = w3) ∧ (∀ (w5 : World), u0 w5 → Value.pointer (some (Addr.add a (8 : Nat))) = Value.pointer (some (Addr.add a (8 : Nat))) ∧ w5 = w5) ∧ rd (World.cell? (World.drew w) (Addr.add a (8 : Nat))) fun v7 => (∀ (w8 : World), u0 w8 → rd (World.cell? w8 (Addr.add a (8 : Nat))) fun v10 => v10 = v7 ∧ w8 = w8) ∧ isK IntKind.u32 v7 fun i11 => (∀ (w12 : World), u0 w12 → Value.pointer (some a) = Value.pointer (some a) ∧ w12 = w12) ∧ (∀ (w14 : World), u0 w14 → Value.pointer (some a) = Value.pointer (some a) ∧ w14 = w14) ∧ (∀ (w16 : World), u0 w16 → Value.pointer (some (Addr.add a (3 : Nat))) = Value.pointer (some (Addr.add a (3 : Nat))) ∧ w16 = w16) ∧ callV Tryz.prog (24 : Nat) [Value.pointer (some (Addr.add a (3 : Nat)))] (World.drew w) fun v18 w19 => isB v18 fun t20 => u0 w19 ∧ (∀ (w21 : World), u0 w21 → Value.int IntKind.u32 i11 = Value.int IntKind.u32 i11 ∧ w21 = w21) ∧ (∀ (w23 : World), u0 w23 → Value.bool t20 = Value.bool t20 ∧ w23 = w23) ∧ R (Value.tuple #[Value.int IntKind.u32 i11, Value.bool t20]) w19) :
 callV Tryz.prog 15 [Value.pointer (some a)] w R :=
 vc_of hm ⟨fun _ => false, fun n => match n with | 1 => .take 0 (.take 1 (.take 2 (.take 3 (.take 4 (.take 5 (.take 6 (.one 7 (.take 8 (.take 9 (.done)))))))))) | _ => .done, fun _ => []⟩ Tryz.func15 ent15 (by kernel_rfl) h
end Go.Proofs.YtipikchkbmgloaaGreatDoor
namespace Go.Proofs.YtipikchkbmgloaaGreatDoor
set_option linter.unusedSimpArgs false
set_option linter.unusedVariables false
open Go Go.RowKit VC
variable {w : World}
theorem distR_c {a b : Nat} (ha : a < 65536) (hb : b < 65536) : callV Tryz.prog 69 [.int .u16 a, .int .u16 b] w fun v w' => v = .int .i64 (distI a b) ∧ w' = w := by
 refine vc69 a b w _ ?_
 rw [w64 (by omega : -9223372036854775808 ≤ ((a : Nat) : Int) ∧ ((a : Nat) : Int) ≤ 9223372036854775807), w64 (by omega : -9223372036854775808 ≤ ((b : Nat) : Int) ∧ ((b : Nat) : Int) ≤ 9223372036854775807), w64 (by omega)]
 refine br_dec (fun h => ?_) (fun h => br_dec (fun h2 => ?_) (fun h2 => ?_))
 ·rw [w64 (by omega)]; refine ⟨?_, rfl⟩; congr 1; unfold distI; omega
 ·rw [w64 (by omega)]; refine ⟨?_, rfl⟩; congr 1; unfold distI; omega
 ·refine ⟨?_, rfl⟩; congr 1; unfold distI; omega
def IntsAt (w : World) (k : IntKind) (p : Option Addr) (l : List Nat) : Prop := ∀ j x, l[j]? = some x → ∃ ad, p = some ad ∧ w.cell? (ad.add j) = some (.int k (x : Nat))
theorem in41_c {p : Option Addr} {c n : Nat} {l : List Nat} (h : IntsAt w .i64 p l) (hl : l.length ≤ 1000000000) : callV Tryz.prog 41 [.slice p l.length c, .int .i64 n] w fun v w' => v = .bool (decide (n ∈ l)) ∧ w' = w := by
 refine vc41 p l.length c n w _ ?_
 refine ⟨fun u W => W = w ∧ ∃ i : Nat, i ≤ l.length ∧ u 5 = .int .i64 i ∧ n ∉ l.take i, fun u _ => l.length - (intOf (u 5)).toNat, ⟨rfl, 0, by omega, rfl, by simp⟩, ?_⟩
 rintro u W ⟨rfl, i, hi, h5, hno⟩
 change u 5 = _ at h5
 simp only [h5, vq, eqV, nilV]
 refine br_dec (fun hlt => ?_) (fun hge => ?_)
 ·obtain ⟨x, hx⟩ : ∃ x, l[i]? = some x := ⟨l[i]'(by omega), by simp⟩
  obtain ⟨ad, rfl, hc⟩ := h i x hx
  simp only [Int.toNat_natCast, hc, vq, eqV, nilV]
  refine ⟨by omega, ?_⟩
  refine br_dec (fun he => ?_) (fun he => ?_)
  ·have : n = x := by omega
   subst this
   rw [decide_eq_true (List.mem_of_getElem? hx)]
  ·rw [show IntKind.i64.wrap ((i : Int) + 1) = ((i + 1 : Nat) : Int) from (w64 (by omega)).trans (by omega)]
   refine ⟨⟨rfl, i + 1, by omega, rfl, ?_⟩, ?_⟩
   ·rw [List.take_add_one, hx]
    intro hm
    rcases List.mem_append.1 hm with hm | hm
    ·exact hno hm
    ·simp at hm; omega
   ·show l.length - ((i + 1 : Nat) : Int).toNat < l.length - (i : Int).toNat
    omega
 ·rw [List.take_of_length_le (by omega)] at hno
  rw [decide_eq_false hno]
structure RWinAt (w : World) (F : Nat → Prop) (D : Nat) (V : RWin) (nv : Value) : Prop where
 box : w.heap[D]? = some (.cells #[.bool V.some, .int .u16 V.last, nv] 73 (0, 0))
 own : w.ownsRow 0 32 1 nv V.near.length (V.near.map fun x => Value.int .u16 (x : Nat))
 fD : F D
 fn : ∀ i, nv.ownBlock = some i → F i
theorem IntsAt.of_own {k : IntKind} {base e c : Nat} {p : Option Addr} {l : List Nat} (h : w.ownsRow base e 1 (.slice p l.length c) l.length (l.map fun x => Value.int k (x : Nat))) : IntsAt w k p l := by
 intro j x hj
 obtain ⟨_, _, e1, hread⟩ := own_read h
 cases e1
 obtain ⟨g, e2, -, -, hc⟩ := hread j (.int k x) (by rw [List.getElem?_map, hj]; rfl)
 cases e2
 exact ⟨_, rfl, hc⟩
theorem has57_c {F : Nat → Prop} {D n : Nat} {V : RWin} {nv : Value} (h : RWinAt w F D V nv) (hl : V.near.length ≤ 1000000000) : callV Tryz.prog 57 [.pointer (some ⟨D, 0, none⟩), .int .u16 n] w fun v w' => v = .bool (decide (n ∈ V.near)) ∧ w' = w := by
 obtain ⟨p, c, rfl, -⟩ := own_read h.own
 have h2 : w.cell? (Addr.add ⟨D, 0, none⟩ 2) = some (.slice p V.near.length c) := by rw [addr_add]; exact cellOf h.box rfl
 have hi := IntsAt.of_own h.own
 refine vc57 ⟨D, 0, none⟩ n w _ ?_
 refine ⟨fun u W => W = w ∧ ∃ i : Nat, i ≤ V.near.length ∧ u 5 = .int .i64 i ∧ n ∉ V.near.take i, fun u _ => V.near.length - (intOf (u 5)).toNat, ⟨rfl, 0, by omega, rfl, by simp⟩, ?_⟩
 rintro u W ⟨rfl, i, hi', h5, hno⟩
 change u 5 = _ at h5
 simp only [h5, h2, vq, eqV, nilV]
 refine br_dec (fun hlt => ?_) (fun hge => ?_)
 ·obtain ⟨x, hx⟩ : ∃ x, V.near[i]? = some x := ⟨V.near[i]'(by omega), by simp⟩
  obtain ⟨ad, rfl, hc⟩ := hi i x hx
  simp only [Int.toNat_natCast, hc, vq, eqV, nilV]
  refine ⟨by omega, ?_⟩
  refine br_dec (fun he => ?_) (fun he => ?_)
  ·have : n = x := by omega
   subst this
   rw [decide_eq_true (List.mem_of_getElem? hx)]
  ·rw [show IntKind.i64.wrap ((i : Int) + 1) = ((i + 1 : Nat) : Int) from (w64 (by omega)).trans (by omega)]
   refine ⟨⟨rfl, i + 1, by omega, rfl, ?_⟩, ?_⟩
   ·rw [List.take_add_one, hx]
    intro hm
    rcases List.mem_append.1 hm with hm | hm
    ·exact hno hm
    ·simp at hm; omega
   ·show V.near.length - ((i + 1 : Nat) : Int).toNat < V.near.length - (i : Int).toNat
    omega
 ·rw [List.take_of_length_le (by omega)] at hno
  rw [decide_eq_false hno]
theorem wrap16 (a b : Nat) (hb : b < 65536) : IntKind.u16.wrap ((a : Int) - IntKind.u16.wrap (IntKind.i64.wrap ((b : Int) + 1))) = (((a + 65535 - b) % 65536 : Nat) : Int) := by
 rw [w64 (by omega)]
 simp only [IntKind.wrap, IntKind.bits, IntKind.signed]
 simp
 omega
theorem behind {a n i : Nat} (hn : n < 65536) (hi : i < 65535) : (a + 65535 - i) % 65536 = n ↔ distI a n = if i < 32767 then (i : Int) + 1 else (i : Int) + 1 - 65536 := by
 unfold distI
 split <;> omega
theorem acked40_c {last bits n : Nat} (hl : last < 65536) (hb : bits < 4294967296) (hn : n < 65536) : callV Tryz.prog 40 [.int .u16 last, .int .u32 bits, .int .u16 n] w fun v w' => v = .bool (ackW last bits n) ∧ w' = w := by
 refine vc40 last bits n w _ ?_
 refine br_dec (fun h => ?_) (fun h => ?_)
 ·have : n = last := by omega
  subst this
  unfold ackW
  rw [dist_self, if_neg (by omega), if_neg (by omega)]
  exact ⟨rfl, rfl⟩
 refine ⟨fun u W => W = w ∧ ∃ i : Nat, i ≤ 32 ∧ u 7 = .int .i64 i ∧ ∀ k : Nat, k < i → distI last n ≠ (k : Int) + 1, fun u _ => 32 - (intOf (u 7)).toNat, ⟨rfl, 0, by omega, rfl, fun k hk => by omega⟩, ?_⟩
 rintro u W ⟨rfl, i, hi, h7, hno⟩
 change u 7 = _ at h7
 simp only [h7, vq, eqV, nilV]
 refine br_dec (fun hlt => ?_) (fun hge => ?_)
 ·rw [wrap16 last i (by omega)]
  refine br_dec (fun he => ?_) (fun he => ?_)
  ·have hd : distI last n = (i : Int) + 1 := by
    have := (behind (a := last) (n := n) (i := i) hn (by omega)).1 (by omega)
    rw [if_pos (by omega)] at this; exact this
   have e64 : IntKind.u64.wrap (i : Int) = (i : Int) := by
    simp only [IntKind.wrap, IntKind.bits, IntKind.signed]; simp; omega
   have hsh : IntKind.u32.wrap ((1 : Int) * 2 ^ (min i IntKind.u32.bits)) = ((2 ^ i : Nat) : Int) := by
    have := shl32 1 i
    rw [show ((1 : Nat) : Int) = (1 : Int) from rfl] at this
    rw [this, Nat.one_mul, Nat.mod_eq_of_lt]
    exact Nat.pow_lt_pow_right (a := 2) (by omega) (show i < 32 by omega)
   rw [e64, bv_shl, hsh]
   simp only [vq, eqV, nilV]
   have hp : 0 < 2 ^ i := Nat.two_pow_pos i
   have hq : bits / 2 ^ i < 4294967296 := Nat.lt_of_le_of_lt (Nat.div_le_self _ _) hb
   have hdv : IntKind.u32.wrap ((bits : Int).tdiv ((2 ^ i : Nat) : Int)) = ((bits / 2 ^ i : Nat) : Int) := by
    rw [Int.tdiv_eq_ediv_of_nonneg (Int.natCast_nonneg _), ← Int.natCast_ediv]
    generalize bits / 2 ^ i = z at hq ⊢
    exact w32 (by omega)
   rw [hdv, dv_ne _ (by omega)]
   simp only [vq, eqV, nilV]
   rw [Int.tmod_eq_emod_of_nonneg (Int.natCast_nonneg _)]
   unfold ackW
   rw [if_neg (by omega), if_pos (by omega), show (distI last n).toNat - 1 = i by omega, Nat.testBit_eq_decide_div_mod_eq]
   congr 1
   generalize bits / 2 ^ i = z
   have : ((z : Int) % 2 = 1) ↔ (z % 2 = 1) := by omega
   exact decide_eq_decide.2 this
  ·have hd : distI last n ≠ (i : Int) + 1 := fun hd => he (by
    have := (behind (a := last) (n := n) (i := i) hn (by omega)).2 (by rw [if_pos (by omega)]; exact hd)
    omega)
   rw [show IntKind.i64.wrap ((i : Int) + 1) = ((i + 1 : Nat) : Int) from (w64 (by omega)).trans (by omega)]
   refine ⟨⟨rfl, i + 1, by omega, rfl, fun k hk => ?_⟩, ?_⟩
   ·by_cases hki : k = i
    ·subst hki; exact hd
    ·exact hno k (by omega)
   ·show 32 - ((i + 1 : Nat) : Int).toNat < 32 - (i : Int).toNat
    omega
 ·have h0 : distI last n ≠ 0 := fun h0 => h (by have := dist_zero hl hn h0; omega)
  have hout : distI last n < 0 ∨ 32 < distI last n := by
   by_cases hx : distI last n < 0 ∨ 32 < distI last n
   ·exact hx
   ·exact absurd (by omega) (hno ((distI last n).toNat - 1) (by omega))
  unfold ackW
  rw [if_pos hout]
end Go.Proofs.YtipikchkbmgloaaGreatDoor
namespace Go.Proofs.YtipikchkbmgloaaGreatDoor
set_option linter.unusedSimpArgs false
set_option linter.unusedVariables false
open Go Go.RowKit VC
variable {w : World}
theorem mod_more (b i : Nat) : b % 2 ^ (i + 1) = b % 2 ^ i + (if b.testBit i = true then 2 ^ i else 0) := by
 rw [Nat.mod_pow_succ, Nat.testBit_eq_decide_div_mod_eq]
 rcases Nat.mod_two_eq_zero_or_one (b / 2 ^ i) with h | h
 ·rw [h]; simp
 ·rw [h]; simp
theorem ack28_c {F : Nat → Prop} {D : Nat} {V : RWin} {W : Win} {nv : Value} (h : RWinAt w F D V nv) (hq : WinEq W V) (ha : W.any = true) (hl : V.near.length ≤ 1000000000) :
  callV Tryz.prog 28 [.pointer (some ⟨D, 0, none⟩)] w fun v w' => v = .tuple #[.int .u16 W.last, .int .u32 W.bits] ∧ w' = w := by
 refine vc28 ⟨D, 0, none⟩ w _ ?_
 have c0 : w.cell? ⟨D, 0, none⟩ = some (.bool V.some) := cellOf h.box rfl
 have c1 : w.cell? (Addr.add ⟨D, 0, none⟩ 1) = some (.int .u16 V.last) := by rw [addr_add]; exact cellOf h.box rfl
 have hs : V.some = true := hq.some.trans ha
 have hlast := hq.last
 have hw := hq.ok.last
 have hb := hq.ok.bits
 refine ⟨fun u w' => w' = w ∧ ∃ i : Nat, i ≤ 32 ∧ u 5 = .int .i64 i ∧ u 4 = .int .u32 ((W.bits % 2 ^ i : Nat) : Int), fun u _ => 32 - (intOf (u 5)).toNat, ⟨rfl, 0, by omega, rfl, by rw [Nat.pow_zero, Nat.mod_one]; rfl⟩, ?_⟩
 rintro u w3 ⟨rfl, i, hi, h5, h4⟩
 change u 5 = _ at h5
 change u 4 = _ at h4
 simp only [h5, h4, c0, c1, hs, hlast, vq, eqV, nilV]
 refine br_dec (fun hlt => ?_) (fun hge => ?_)
 ·rw [wrap16 W.last i (by omega)]
  refine (has57_c (n := (W.last + 65535 - i) % 65536) h hl).mono ?_
  rintro _ _ ⟨rfl, rfl⟩
  simp only [vq, eqV, nilV]
  have hx : (W.last + 65535 - i) % 65536 < 65536 := Nat.mod_lt _ (by omega)
  have hd : distI W.last ((W.last + 65535 - i) % 65536) = (i : Int) + 1 := by
   have := (behind (a := W.last) (i := i) hx (by omega)).1 rfl
   rw [if_pos (by omega)] at this; exact this
  have hiff : (W.last + 65535 - i) % 65536 ∈ V.near ↔ W.bits.testBit i = true := by
   rw [hq.near ha _ hx, hd]
   constructor
   ·rintro ⟨-, -, h | h⟩
    ·omega
    ·rwa [show ((i : Int) + 1).toNat - 1 = i by omega] at h
   ·intro h
    exact ⟨by omega, by omega, .inr (by rwa [show ((i : Int) + 1).toNat - 1 = i by omega])⟩
  have e64 : IntKind.u64.wrap (i : Int) = (i : Int) := by
   simp only [IntKind.wrap, IntKind.bits, IntKind.signed]; simp; omega
  have hp : 2 ^ i < 4294967296 := Nat.pow_lt_pow_right (a := 2) (by omega) (show i < 32 by omega)
  have hsh : IntKind.u32.wrap ((1 : Int) * 2 ^ (min i IntKind.u32.bits)) = ((2 ^ i : Nat) : Int) := by
   have := shl32 1 i
   rw [show ((1 : Nat) : Int) = (1 : Int) from rfl] at this
   rw [this, Nat.one_mul, Nat.mod_eq_of_lt hp]
  have hmm := mod_more W.bits i
  have hml : W.bits % 2 ^ (i + 1) ≤ W.bits := Nat.mod_le _ _
  rw [e64, bv_shl, hsh, show IntKind.i64.wrap ((i : Int) + 1) = ((i + 1 : Nat) : Int) from (w64 (by omega)).trans (by omega)]
  simp only [vq, eqV, nilV]
  refine br_dec (fun hin => ?_) (fun hout => ?_)
  ·rw [if_pos (hiff.1 hin)] at hmm
   rw [show ((W.bits % 2 ^ i : Nat) : Int) + ((2 ^ i : Nat) : Int) = ((W.bits % 2 ^ (i + 1) : Nat) : Int) by rw [hmm]; omega, w32 (by omega)]
   refine ⟨⟨rfl, i + 1, by omega, rfl, rfl⟩, ?_⟩
   show 32 - ((i + 1 : Nat) : Int).toNat < 32 - (i : Int).toNat
   omega
  ·have hmm' : W.bits % 2 ^ i = W.bits % 2 ^ (i + 1) := by rw [hmm, if_neg (fun h => hout (hiff.2 h))]; rfl
   rw [hmm']
   refine ⟨⟨rfl, i + 1, by omega, rfl, rfl⟩, ?_⟩
   show 32 - ((i + 1 : Nat) : Int).toNat < 32 - (i : Int).toNat
   omega
 ·have : i = 32 := by omega
  subst this
  rw [Nat.mod_eq_of_lt (show W.bits < 2 ^ 32 from hb)]
def nearV (l : List Nat) : List Value := l.map fun x => Value.int .u16 (x : Nat)
def inWin (a x : Nat) : Bool := decide (0 ≤ distI a x ∧ distI a x ≤ 32)
set_option maxRecDepth 20000 in
set_option maxHeartbeats 1000000 in
theorem accept39_c {F : Nat → Prop} {D n : Nat} {V : RWin} {nv : Value} (h : RWinAt w F D V nv) (hn : n < 65536) (hlast : V.last < 65536) (hr : ∀ x ∈ V.near, x < 65536) (hl : V.near.length ≤ 1000000) :
  callV Tryz.prog 39 [.pointer (some ⟨D, 0, none⟩), .int .u16 n] w fun v w' => v = .bool (accR V n).1 ∧ (∃ nv', RWinAt w' (FNew F w w') D (accR V n).2 nv') ∧ Fm (fun i => i = D) w w' := by
 obtain ⟨hbox, hown, fD, fn⟩ := h
 obtain ⟨pn, cn, hnv, -⟩ := own_read hown
 have c1 : w.cell? (Addr.add ⟨D, 0, none⟩ 1) = some (.int .u16 V.last) := by rw [addr_add]; exact cellOf hbox rfl
 have c0 : w.cell? ⟨D, 0, none⟩ = some (.bool V.some) := cellOf hbox rfl
 refine vc39 ⟨D, 0, none⟩ n w _ ?_
 simp only [c1, vq, eqV, nilV]
 refine (distR_c hn hlast).mono ?_
 rintro _ w ⟨rfl, rfl⟩
 simp only [vq, eqV, nilV]
 obtain ⟨L, hL⟩ : ∃ L, L = if V.some = true ∧ distI n V.last ≤ 0 then V.last else n := ⟨_, rfl⟩
 obtain ⟨Bad, hBad⟩ : ∃ B : Prop, B ↔ (V.some = true ∧ distI n V.last ≤ 0 ∧ (distI n V.last < -32 ∨ n ∈ V.near)) := ⟨_, Iff.rfl⟩
 have hno : Bad → accR V n = (false, V) := by
  rw [hBad]
  rintro ⟨h1, h2, h3⟩
  unfold accR
  rw [if_pos ⟨h1, h2⟩, if_pos h3]
 have hyes : ¬ Bad → accR V n = (true, ⟨true, L, n :: V.near.filter (inWin L)⟩) := by
  intro hgo
  rw [hBad] at hgo
  unfold accR
  by_cases h1 : V.some = true ∧ distI n V.last ≤ 0
  ·rw [if_pos h1, if_neg (fun h => hgo ⟨h1.1, h1.2, h⟩), hL, if_pos h1]; rfl
  ·rw [if_neg h1, hL, if_neg h1]; rfl
 have hstay : RWinAt w (FNew F w w) D V nv := ⟨hbox, hown, .inl fD, fun i hi => .inl (fn i hi)⟩
 refine ⟨fun _ W => ¬ Bad ∧ W.heap[D]? = some (.cells #[.bool V.some, .int .u16 L, nv] 73 (0, 0)) ∧ Fm (fun i => i = D) w W, ?_, ?_⟩
 ·simp only [c0, vq, eqV, nilV]
  have store : ¬ (V.some = true ∧ distI n V.last ≤ 0) → stC w (Addr.add ⟨D, 0, none⟩ 1) [.int .u16 n] fun W => ¬ Bad ∧ W.heap[D]? = some (.cells #[.bool V.some, .int .u16 L, nv] 73 (0, 0)) ∧ Fm (fun i => i = D) w W := by
   intro h1
   rw [addr_add]
   refine stC_one hbox (by simp) rfl fun W hb hf => ⟨fun h => h1 ⟨(hBad.1 h).1, (hBad.1 h).2.1⟩, ?_, hf⟩
   rw [hL, if_neg h1]
   exact hb
  cases hs : V.some with
  | false =>
   simp only [vq, eqV, nilV]
   rw [hs] at store
   exact store (fun h => by cases h.1)
  | true =>
   simp only [vq, eqV, nilV]
   rw [hs] at store hL hbox hBad
   refine br_dec (fun hle => ?_) (fun hgt => store (fun h => hgt h.2))
   refine (has57_c (n := n) ⟨by rw [hs]; exact hbox, hown, fD, fn⟩ (by omega)).mono ?_
   rintro _ w ⟨rfl, rfl⟩
   simp only [vq, eqV, nilV]
   refine br_dec (fun hfar => ?_) (fun hnear => br_dec (fun hin => ?_) (fun hin => ?_))
   ·rw [hno (hBad.2 ⟨rfl, hle, .inl hfar⟩)]; exact ⟨rfl, ⟨nv, hstay⟩, Fm.refl _ _⟩
   ·rw [hno (hBad.2 ⟨rfl, hle, .inr hin⟩)]; exact ⟨rfl, ⟨nv, hstay⟩, Fm.refl _ _⟩
   ·refine ⟨fun h => (hBad.1 h).2.2.elim hnear hin, ?_, Fm.refl _ _⟩
    rw [hL, if_pos ⟨rfl, hle⟩]
    exact hbox
 rintro u14 w15 ⟨hgo, hbox15, hF15⟩
 rw [hyes hgo]
 have hLr : L < 65536 := by rw [hL]; split <;> assumption
 refine stC_one hbox15 (by simp) rfl fun w17 hb17 hf17 => ?_
 have hF17 := hF15.trans hf17
 refine build_1 (by rw [row71]) row32 rfl rfl fun w19 hb19 hs19 hf19 => ?_
 simp only [vq, eqV, nilV]
 have hs15 := hF17.size
 have hF19 := hF17.trans hf19.none
 have neD : ∀ i C t, w.heap[i]? = some (.cells C t (0, 0)) → t ≠ 73 → ¬ i = D := by
  rintro i C t hi ht rfl
  rw [hbox] at hi; cases hi; exact ht rfl
 have hDw := lt_of_blk hbox
 have hrow : ∀ W, Fm (fun i => i = D) w W → W.ownsRow 0 32 1 nv V.near.length (nearV V.near) := fun W hf => hf.owns hown fun i hi => by
  obtain ⟨_, cur, hc⟩ := own_block hown hi
  exact neD i _ _ hc (by decide)
 have hboxW : ∀ W, Fm none' w19 W → W.heap[D]? = some (.cells #[.bool true, .int .u16 L, nv] 73 (0, 0)) := fun W hf => hf.keep (hf19.keep hb17 id) id
 refine ⟨fun u W => ∃ i : Nat, i ≤ V.near.length ∧ u 8 = .int .i64 i ∧ W.ownsRow w.heap.size 32 1 (u 7) (n :: (V.near.take i).filter (inWin L)).length (nearV (n :: (V.near.take i).filter (inWin L))) ∧ W.heap[D]? = some (.cells #[.bool true, .int .u16 L, nv] 73 (0, 0)) ∧ Fm (fun i => i = D) w W,
  fun u _ => V.near.length - (intOf (u 8)).toNat, ?_, ?_⟩
 ·refine ⟨0, by omega, rfl, ?_, hboxW w19 (Fm.refl _ _), hF19⟩
  refine ⟨rfl, .inr ⟨w17.heap.size, 1, _, rfl, hs15, hb19, by simp, by simp [maxLen], rfl, rfl⟩⟩
 rintro u W ⟨i, hi, h8, ho, hbW, hFW⟩
 change u 8 = _ at h8
 have ho' : W.ownsRow w.heap.size 32 1 (u 7) (n :: (V.near.take i).filter (inWin L)).length (nearV (n :: (V.near.take i).filter (inWin L))) := ho
 obtain ⟨p7, c7, h7, -⟩ := own_read ho'
 have k2 : W.cell? (Addr.add ⟨D, 0, none⟩ 2) = some (.slice pn V.near.length cn) := by rw [addr_add, ← hnv]; exact cellOf hbW rfl
 have k1 : W.cell? (Addr.add ⟨D, 0, none⟩ 1) = some (.int .u16 L) := by rw [addr_add]; exact cellOf hbW rfl
 have hrW := hrow W hFW
 rw [hnv] at hrW
 have hints := IntsAt.of_own hrW
 simp only [h8, k2, vq, eqV, nilV]
 refine br_dec (fun hlt => ?_) (fun hge => ?_)
 ·obtain ⟨x, hx⟩ : ∃ x, V.near[i]? = some x := ⟨V.near[i]'(by omega), by simp⟩
  have hxr := hr x (List.mem_of_getElem? hx)
  obtain ⟨ad, rfl, hc⟩ := hints i x hx
  have htk : V.near.take (i + 1) = V.near.take i ++ [x] := by rw [List.take_add_one, hx]; rfl
  refine ⟨fun u' W' => W'.ownsRow w.heap.size 32 1 (u' 7) (n :: (V.near.take (i + 1)).filter (inWin L)).length (nearV (n :: (V.near.take (i + 1)).filter (inWin L))) ∧ W'.heap[D]? = some (.cells #[.bool true, .int .u16 L, nv] 73 (0, 0)) ∧ Fm (fun i => i = D) w W', ?_, ?_⟩
  ·refine ⟨fun u' W' => u' 9 = .int .i64 (distI L x) ∧ W' = W.drew, ?_, ?_⟩
   ·refine ⟨fun W' => W' = W.drew, rfl, ?_⟩
    simp only [cell_drew, k1, k2, Int.toNat_natCast, Nat.mul_one, hc, forall_eq, vq, eqV, nilV]
    refine ⟨by omega, by omega, ?_⟩
    refine (distR_c hLr hxr).mono ?_
    rintro _ W' ⟨rfl, rfl⟩
    exact ⟨rfl, rfl, rfl⟩
   rintro u' W' ⟨h9, rfl⟩
   change u' 9 = _ at h9
   simp only [h9, vq, eqV, nilV]
   have hdr : Fm (fun i => i = D) w W.drew := hFW.trans (Fm.drew W).none
   have skip : inWin L x = false → W.drew.ownsRow w.heap.size 32 1 (u 7) (n :: (V.near.take (i + 1)).filter (inWin L)).length (nearV (n :: (V.near.take (i + 1)).filter (inWin L))) ∧ W.drew.heap[D]? = some (.cells #[.bool true, .int .u16 L, nv] 73 (0, 0)) ∧ Fm (fun i => i = D) w W.drew := by
    intro hb
    have e1 : (V.near.take (i + 1)).filter (inWin L) = (V.near.take i).filter (inWin L) := by rw [htk, List.filter_append]; simp [hb]
    rw [e1]
    exact ⟨(Fm.drew W).owns ho' fun _ _ => id, hbW, hdr⟩
   refine br_dec (fun h0 => br_dec (fun h32 => ?_) (fun h32 => ?_)) (fun h0 => ?_)
   ·have hb : inWin L x = true := decide_eq_true ⟨h0, h32⟩
    have e1 : n :: (V.near.take (i + 1)).filter (inWin L) = (n :: (V.near.take i).filter (inWin L)) ++ [x] := by rw [htk, List.filter_append]; simp [hb]
    rw [h7] at ho' ⊢
    have k2' : W.drew.cell? (Addr.add ⟨D, 0, none⟩ 2) = some (.slice (some ad) V.near.length cn) := k2
    simp only [k2', cell_drew, Int.toNat_natCast, Nat.mul_one, hc, vq, eqV, nilV]
    refine ⟨by omega, ?_⟩
    have hlen : (n :: (V.near.take i).filter (inWin L)).length ≤ 1000001 := by
     have := List.length_filter_le (inWin L) (V.near.take i)
     rw [List.length_take] at this
     rw [List.length_cons]; omega
    refine append_1 (by rw [row71]) row32 rfl rfl (((Fm.drew W).owns ho' fun _ _ => id)) (hFW.size) (by simp only [maxLen]; omega) (by omega) fun v' w' hov hfv => ?_
    obtain ⟨p', c', rfl, -⟩ := own_read hov
    simp only [vq, eqV, nilV]
    have hfn : ¬ (Value.slice p7 (n :: (V.near.take i).filter (inWin L)).length c7).ownBlock = some D := fun hw => by
     have := (own_block ho' hw).1
     omega
    have hlen1 : (n :: (V.near.take (i + 1)).filter (inWin L)).length = (n :: (V.near.take i).filter (inWin L)).length + 1 := by rw [e1, List.length_append]; rfl
    have hnv1 : nearV (n :: (V.near.take (i + 1)).filter (inWin L)) = nearV (n :: (V.near.take i).filter (inWin L)) ++ [.int .u16 (x : Nat)] := by rw [e1]; simp [nearV]
    rw [hlen1, hnv1]
    exact ⟨hov, hfv.keep (w := W.drew) hbW hfn, hdr.trans' hfv fun j hj hw => by have := (own_block ho' hw).1; omega⟩
   ·exact skip (decide_eq_false fun h => h32 h.2)
   ·exact skip (decide_eq_false fun h => h0 h.1)
  ·rintro u' W' ⟨ho2, hb2, hF2⟩
   rw [show IntKind.i64.wrap ((i : Int) + 1) = ((i + 1 : Nat) : Int) from (w64 (by omega)).trans (by omega)]
   refine ⟨⟨i + 1, by omega, rfl, ho2, hb2, hF2⟩, ?_⟩
   show V.near.length - ((i + 1 : Nat) : Int).toNat < V.near.length - (i : Int).toNat
   omega
 ·rw [List.take_of_length_le (by omega)] at ho' h7
  rw [h7] at ho' ⊢
  simp only [vq, eqV, nilV]
  rw [addr_add]
  refine stC_one hbW (by simp) rfl fun w' hb' hf' => ?_
  have hs' := hf'.size
  refine ⟨⟨.slice p7 (n :: V.near.filter (inWin L)).length c7, hb', ?_, .inl fD, fun j hj => ?_⟩, hFW.trans hf'⟩
  ·refine own_base (hf'.owns ho' fun j hj e => ?_) (Nat.zero_le _)
   have := (own_block ho' hj).1
   omega
  ·have := own_block ho' hj
   obtain ⟨h1, cur, h2⟩ := this
   exact .inr ⟨h1, by have := lt_of_blk h2; omega⟩
end Go.Proofs.YtipikchkbmgloaaGreatDoor
namespace Go.Proofs.YtipikchkbmgloaaGreatDoor
set_option linter.unusedSimpArgs false
set_option linter.unusedVariables false
open Go VC
theorem vc58 (ap : Option Addr) (an : Nat) (ac : Nat) (w : World) (R : Value → World → Prop)
 (h : loopC (alist [((4 : Nat), Value.int IntKind.i64 (0 : Int))]) w fun u0 u1 => ∀ (u2 : Nat → Value) (w3 : World), u0 (alist [((4 : Nat), u2 (4 : Nat))]) w3 → isK IntKind.i64 (u2 (4 : Nat)) fun i5 => br (decide (i5 < (↑an : Int))) (isK IntKind.i64 (u2 (4 : Nat)) fun i6 => rd ap fun a7 => ((0 : Int) ≤ i6 ∧ i6 < (↑an : Int)) ∧ rd (cellsAt w3 (Addr.add a7 (Int.toNat i6 * (23 : Nat))) (23 : Nat)) fun l8 => callV Tryz.prog (19 : Nat) [Value.agg (List.toArray l8)] w3 fun v9 w10 => isB v9 fun t11 => br (!t11) (R (Value.tuple #[Value.string { data := #[] : ByteArray }, Value.int IntKind.i64 (1 : Int)]) w10) (isK IntKind.i64 (u2 (4 : Nat)) fun i12 => again u0 u1 (alist [((4 : Nat), Value.int IntKind.i64 (IntKind.wrap IntKind.i64 (i12 + (1 : Int))))]) w10 (alist [((4 : Nat), u2 (4 : Nat))]) w3)) (br (decide ((16 : Int) < (↑an : Int))) (R (Value.tuple #[Value.string { data := #[] : ByteArray }, Value.int IntKind.i64 (5 : Int)]) w3) (callV Tryz.prog (73 : Nat) [Value.slice ap an ac] w3 fun v13 w14 => isStr v13 fun x15 => br (decide ((1024 : Int) < (↑(ByteArray.size x15) : Int))) (R (Value.tuple #[Value.string { data := #[] : ByteArray }, Value.int IntKind.i64 (5 : Int)]) w14) (R (Value.tuple #[Value.string x15, Value.int IntKind.i64 (0 : Int)]) w14)))) :
 callV Tryz.prog 58 [Value.slice ap an ac] w R :=
 vc_of hm ⟨fun _ => false, fun _ => .done, fun n => match n with | 2 => [4] | _ => []⟩ Tryz.func58 ent58 (by kernel_rfl) h
theorem vc73 (ap : Option Addr) (an : Nat) (ac : Nat) (w : World) (R : Value → World → Prop)
 (h : callV Tryz.prog (84 : Nat) [Value.int IntKind.u64 (IntKind.wrap IntKind.u64 (↑an : Int)), Value.int IntKind.i64 (5 : Int)] w fun v0 w1 => isStr v0 fun x2 => loopC (alist [((3 : Nat), Value.string x2), ((4 : Nat), Value.int IntKind.i64 (0 : Int))]) w1 fun u3 u4 => ∀ (u5 : Nat → Value) (w6 : World), u3 (alist [((3 : Nat), u5 (3 : Nat)), ((4 : Nat), u5 (4 : Nat))]) w6 → isK IntKind.i64 (u5 (4 : Nat)) fun i8 => br (decide (i8 < (↑an : Int))) (isStr (u5 (3 : Nat)) fun x9 => isK IntKind.i64 (u5 (4 : Nat)) fun i10 => rd ap fun a11 => ((0 : Int) ≤ i10 ∧ i10 < (↑an : Int)) ∧ rd (cellsAt w6 (Addr.add a11 (Int.toNat i10 * (23 : Nat))) (23 : Nat)) fun l12 => callV Tryz.prog (85 : Nat) [Value.agg (List.toArray l12)] w6 fun v13 w14 => isStr v13 fun x15 => rd (orO (binV BinOp.add (Value.string x9) (Value.string x15)) none) fun v16 => isStr v16 fun x17 => isK IntKind.i64 (u5 (4 : Nat)) fun i18 => again u3 u4 (alist [((3 : Nat), Value.string x17), ((4 : Nat), Value.int IntKind.i64 (IntKind.wrap IntKind.i64 (i18 + (1 : Int))))]) w14 (alist [((3 : Nat), u5 (3 : Nat)), ((4 : Nat), u5 (4 : Nat))]) w6) (isStr (u5 (3 : Nat)) fun x19 => callV Tryz.prog (86 : Nat) [Value.string x19] w6 fun v20 w21 => isStr v20 fun x22 => R (Value.string x22) w21)) :
 callV Tryz.prog 73 [Value.slice ap an ac] w R :=
 vc_of hm ⟨fun _ => false, fun _ => .done, fun n => match n with | 3 => [3, 4] | _ => []⟩ Tryz.func73 ent73 (by kernel_rfl) h
theorem vc44 (a0 : Int) (a1 : Int) (a2 : Int) (b : Int) (c : Int) (w : World) (R : Value → World → Prop)
 (h : allocC w (Obj.cells #[Value.int IntKind.i64 a0, Value.int IntKind.i64 a1, Value.int IntKind.i64 a2] (37 : Nat)) fun n0 w1 => rd (World.cell? w1 { block := n0, off := (0 : Nat) : Addr }) fun v2 => isK IntKind.i64 v2 fun i3 => rd (World.cell? w1 { block := n0, off := (1 : Nat) : Addr }) fun v4 => isK IntKind.i64 v4 fun i5 => rd (World.cell? w1 { block := n0, off := (2 : Nat) : Addr }) fun v6 => isK IntKind.i64 v6 fun i7 => runs Tryz.prog (Builtin.min_ #[(2 : Nat), (2 : Nat), (2 : Nat)] (2 : Nat) #[Value.int IntKind.i64 i3, Value.int IntKind.i64 i5, Value.int IntKind.i64 i7]) w1 fun v8 w9 => isK IntKind.i64 v8 fun i10 => br (decide (b ≤ i10)) (rd (World.cell? w9 { block := n0, off := (0 : Nat) : Addr }) fun v11 => isK IntKind.i64 v11 fun i12 => rd (World.cell? w9 { block := n0, off := (1 : Nat) : Addr }) fun v13 => isK IntKind.i64 v13 fun i14 => rd (World.cell? w9 { block := n0, off := (2 : Nat) : Addr }) fun v15 => isK IntKind.i64 v15 fun i16 => runs Tryz.prog (Builtin.max_ #[(2 : Nat), (2 : Nat), (2 : Nat)] (2 : Nat) #[Value.int IntKind.i64 i12, Value.int IntKind.i64 i14, Value.int IntKind.i64 i16]) w9 fun v17 w18 => isK IntKind.i64 v17 fun i19 => R (Value.bool (decide (i19 ≤ c))) w18) (R (Value.bool false) w9)) :
 callV Tryz.prog 44 [Value.agg #[Value.int IntKind.i64 a0, Value.int IntKind.i64 a1, Value.int IntKind.i64 a2], Value.int IntKind.i64 b, Value.int IntKind.i64 c] w R :=
 vc_of hm noHints Tryz.func44 ent44 (by kernel_rfl) h
theorem vc77 (a : ByteArray) (w : World) (R : Value → World → Prop)
 (h : loopC (alist [((3 : Nat), Value.string { data := #[] : ByteArray }), ((4 : Nat), Value.int IntKind.i64 (0 : Int))]) w fun u0 u1 => ∀ (u2 : Nat → Value) (w3 : World), u0 (alist [((3 : Nat), u2 (3 : Nat)), ((4 : Nat), u2 (4 : Nat))]) w3 → isK IntKind.i64 (u2 (4 : Nat)) fun i5 => br (decide (i5 < (↑(ByteArray.size a) : Int))) (isStr (u2 (3 : Nat)) fun x6 => isK IntKind.i64 (u2 (4 : Nat)) fun i7 => runs Tryz.prog (Instr.index (9 : Nat) (Value.string a) (Value.int IntKind.i64 i7)) w3 fun v8 w9 => isK IntKind.u8 v8 fun i10 => callV Tryz.prog (84 : Nat) [Value.int IntKind.u64 (IntKind.wrap IntKind.u64 i10), Value.int IntKind.i64 (8 : Int)] w9 fun v11 w12 => isStr v11 fun x13 => rd (orO (binV BinOp.add (Value.string x6) (Value.string x13)) none) fun v14 => isStr v14 fun x15 => isK IntKind.i64 (u2 (4 : Nat)) fun i16 => again u0 u1 (alist [((3 : Nat), Value.string x15), ((4 : Nat), Value.int IntKind.i64 (IntKind.wrap IntKind.i64 (i16 + (1 : Int))))]) w12 (alist [((3 : Nat), u2 (3 : Nat)), ((4 : Nat), u2 (4 : Nat))]) w3) (isStr (u2 (3 : Nat)) fun x17 => R (Value.string x17) w3)) :
 callV Tryz.prog 77 [Value.string a] w R :=
 vc_of hm ⟨fun _ => false, fun _ => .done, fun n => match n with | 3 => [3, 4] | _ => []⟩ Tryz.func77 ent77 (by kernel_rfl) h
theorem vc84 (a : Int) (b : Int) (w : World) (R : Value → World → Prop)
 (h : loopC (alist [((0 : Nat), Value.int IntKind.u64 a), ((5 : Nat), Value.string { data := #[] : ByteArray }), ((6 : Nat), Value.int IntKind.i64 (0 : Int))]) w fun u0 u1 => ∀ (u2 : Nat → Value) (w3 : World), u0 (alist [((0 : Nat), u2 (0 : Nat)), ((5 : Nat), u2 (5 : Nat)), ((6 : Nat), u2 (6 : Nat))]) w3 → isK IntKind.i64 (u2 (6 : Nat)) fun i5 => callV Tryz.prog (96 : Nat) [Value.int IntKind.i64 b] w3 fun v6 w7 => isK IntKind.i64 v6 fun i8 => br (decide (i5 < i8)) (isK IntKind.u64 (u2 (0 : Nat)) fun i9 => runs Tryz.prog (Instr.buildSlice (39 : Nat) (1 : Nat) #[((0 : Nat), Value.int IntKind.u8 (IntKind.wrap IntKind.u8 (IntKind.wrap IntKind.u64 ((48 : Int) + Int.tmod i9 (2 : Int)))))]) w7 fun v10 w11 => isSl v10 fun o12 n13 n14 => runs Tryz.prog (convert (39 : Nat) (9 : Nat) (Value.slice o12 n13 n14)) w11 fun v15 w16 => isStr v15 fun x17 => isStr (u2 (5 : Nat)) fun x18 => rd (orO (binV BinOp.add (Value.string x17) (Value.string x18)) none) fun v19 => isStr v19 fun x20 => isK IntKind.u64 (u2 (0 : Nat)) fun i21 => isK IntKind.i64 (u2 (6 : Nat)) fun i22 => again u0 u1 (alist [((0 : Nat), Value.int IntKind.u64 (IntKind.wrap IntKind.u64 (Int.tdiv i21 (2 : Int)))), ((5 : Nat), Value.string x20), ((6 : Nat), Value.int IntKind.i64 (IntKind.wrap IntKind.i64 (i22 + (1 : Int))))]) w16 (alist [((0 : Nat), u2 (0 : Nat)), ((5 : Nat), u2 (5 : Nat)), ((6 : Nat), u2 (6 : Nat))]) w3) (isStr (u2 (5 : Nat)) fun x23 => R (Value.string x23) w7)) :
 callV Tryz.prog 84 [Value.int IntKind.u64 a, Value.int IntKind.i64 b] w R :=
 vc_of hm ⟨fun _ => false, fun _ => .done, fun n => match n with | 3 => [0, 5, 6] | _ => []⟩ Tryz.func84 ent84 (by kernel_rfl) h
theorem vc86 (a : ByteArray) (w : World) (R : Value → World → Prop)
 (h : loopC (alist [((0 : Nat), Value.string a)]) w fun u0 u1 => ∀ (u2 : Nat → Value) (w3 : World), u0 (alist [((0 : Nat), u2 (0 : Nat))]) w3 → isStr (u2 (0 : Nat)) fun x5 => br (!decide (Int.tmod (↑(ByteArray.size x5) : Int) (8 : Int) = (0 : Int))) (isStr (u2 (0 : Nat)) fun x6 => rd (orO (binV BinOp.add (Value.string x6) (Value.string { data := #[(48 : UInt8)] : ByteArray })) none) fun v7 => isStr v7 fun x8 => again u0 u1 (alist [((0 : Nat), Value.string x8)]) w3 (alist [((0 : Nat), u2 (0 : Nat))]) w3) (loopC (alist [((3 : Nat), Value.string { data := #[] : ByteArray }), ((4 : Nat), Value.int IntKind.i64 (0 : Int))]) w3 fun u9 u10 => ∀ (u11 : Nat → Value) (w12 : World), u9 (alist [((3 : Nat), u11 (3 : Nat)), ((4 : Nat), u11 (4 : Nat))]) w12 → isK IntKind.i64 (u11 (4 : Nat)) fun i14 => isStr (u2 (0 : Nat)) fun x15 => br (decide (i14 < (↑(ByteArray.size x15) : Int))) (isStr (u11 (3 : Nat)) fun x16 => isStr (u2 (0 : Nat)) fun x17 => isK IntKind.i64 (u11 (4 : Nat)) fun i18 => isK IntKind.i64 (u11 (4 : Nat)) fun i19 => runs Tryz.prog (Instr.sliceAt (9 : Nat) (Value.string x17) (some (Value.int IntKind.i64 i18)) (some (Value.int IntKind.i64 (IntKind.wrap IntKind.i64 (i19 + (8 : Int))))) none) w12 fun v20 w21 => isStr v20 fun x22 => callV Tryz.prog (91 : Nat) [Value.string x22] w21 fun v23 w24 => isK IntKind.u64 v23 fun i25 => runs Tryz.prog (Instr.buildSlice (39 : Nat) (1 : Nat) #[((0 : Nat), Value.int IntKind.u8 (IntKind.wrap IntKind.u8 i25))]) w24 fun v26 w27 => isSl v26 fun o28 n29 n30 => runs Tryz.prog (convert (39 : Nat) (9 : Nat) (Value.slice o28 n29 n30)) w27 fun v31 w32 => isStr v31 fun x33 => rd (orO (binV BinOp.add (Value.string x16) (Value.string x33)) none) fun v34 => isStr v34 fun x35 => isK IntKind.i64 (u11 (4 : Nat)) fun i36 => again u9 u10 (alist [((3 : Nat), Value.string x35), ((4 : Nat), Value.int IntKind.i64 (IntKind.wrap IntKind.i64 (i36 + (8 : Int))))]) w32 (alist [((3 : Nat), u11 (3 : Nat)), ((4 : Nat), u11 (4 : Nat))]) w12) (isStr (u11 (3 : Nat)) fun x37 => R (Value.string x37) w12))) :
 callV Tryz.prog 86 [Value.string a] w R :=
 vc_of hm ⟨fun _ => false, fun _ => .done, fun n => match n with | 2 => [0] | 5 => [3, 4] | _ => []⟩ Tryz.func86 ent86 (by kernel_rfl) h
theorem vc91 (a : ByteArray) (w : World) (R : Value → World → Prop)
 (h : loopC (alist [((3 : Nat), Value.int IntKind.u64 (0 : Int)), ((4 : Nat), Value.int IntKind.i64 (0 : Int))]) w fun u0 u1 => ∀ (u2 : Nat → Value) (w3 : World), u0 (alist [((3 : Nat), u2 (3 : Nat)), ((4 : Nat), u2 (4 : Nat))]) w3 → isK IntKind.i64 (u2 (4 : Nat)) fun i5 => br (decide (i5 < (↑(ByteArray.size a) : Int))) (isK IntKind.u64 (u2 (3 : Nat)) fun i6 => isK IntKind.i64 (u2 (4 : Nat)) fun i7 => runs Tryz.prog (Instr.index (9 : Nat) (Value.string a) (Value.int IntKind.i64 i7)) w3 fun v8 w9 => isK IntKind.u8 v8 fun i10 => isK IntKind.i64 (u2 (4 : Nat)) fun i11 => again u0 u1 (alist [((3 : Nat), Value.int IntKind.u64 (IntKind.wrap IntKind.u64 (IntKind.wrap IntKind.u64 (i6 * (2 : Int)) + IntKind.wrap IntKind.u64 (IntKind.wrap IntKind.u8 (i10 - (48 : Int)))))), ((4 : Nat), Value.int IntKind.i64 (IntKind.wrap IntKind.i64 (i11 + (1 : Int))))]) w9 (alist [((3 : Nat), u2 (3 : Nat)), ((4 : Nat), u2 (4 : Nat))]) w3) (isK IntKind.u64 (u2 (3 : Nat)) fun i12 => R (Value.int IntKind.u64 i12) w3)) :
 callV Tryz.prog 91 [Value.string a] w R :=
 vc_of hm ⟨fun _ => false, fun _ => .done, fun n => match n with | 3 => [3, 4] | _ => []⟩ Tryz.func91 ent91 (by kernel_rfl) h
theorem vc96 (a : Int) (w : World) (R : Value → World → Prop)
 (h : R (Value.int IntKind.i64 (max (0 : Int) (min a (64 : Int)))) w) :
 callV Tryz.prog 96 [Value.int IntKind.i64 a] w R :=
 vc_of hm noHints Tryz.func96 ent96 (by kernel_rfl) h
theorem vc97 (a0 : Int) (a1 : Int) (a2 : Int) (b : Int) (w : World) (R : Value → World → Prop)
 (h : allocC w (Obj.cells #[Value.int IntKind.i64 a0, Value.int IntKind.i64 a1, Value.int IntKind.i64 a2] (37 : Nat)) fun n0 w1 => heldC (World.drew w1) fun u2 => (∀ (w3 : World), u2 w3 → Value.pointer (some { block := n0, off := (0 : Nat) : Addr }) = Value.pointer (some { block := n0, off := (0 : Nat) : Addr }) ∧ w3 = w3) ∧ rd (World.cell? (World.drew w1) { block := n0, off := (0 : Nat) : Addr }) fun v5 => (∀ (w6 : World), u2 w6 → rd (World.cell? w6 { block := n0, off := (0 : Nat) : Addr }) fun v8 => v8 = v5 ∧ w6 = w6) ∧ isK IntKind.i64 v5 fun i9 => (∀ (w10 : World), u2 w10 → Value.int IntKind.u64 (IntKind.wrap IntKind.u64 i9) = Value.int IntKind.u64 (IntKind.wrap IntKind.u64 i9) ∧ w10 = w10) ∧ (∀ (w12 : World), u2 w12 → Value.int IntKind.i64 b = Value.int IntKind.i64 b ∧ w12 = w12) ∧ (∀ (w14 : World), u2 w14 → Value.pointer (some { block := n0, off := (1 : Nat) : Addr }) = Value.pointer (some { block := n0, off := (1 : Nat) : Addr }) ∧ w14 = w14) ∧ rd (World.cell? (World.drew w1) { block := n0, off := (1 : Nat) : Addr }) fun v16 => (∀ (w17 : World), u2 w17 → rd (World.cell? w17 { block := n0, off := (1 : Nat) : Addr }) fun v19 => v19 = v16 ∧ w17 = w17) ∧ isK IntKind.i64 v16 fun i20 => (∀ (w21 : World), u2 w21 → Value.int IntKind.u64 (IntKind.wrap IntKind.u64 i20) = Value.int IntKind.u64 (IntKind.wrap IntKind.u64 i20) ∧ w21 = w21) ∧ (∀ (w23 : World), u2 w23 → Value.int IntKind.i64 b = Value.int IntKind.i64 b ∧ w23 = w23) ∧ (∀ (w25 : World), u2 w25 → Value.pointer (some { block := n0, off := (2 : Nat) : Addr }) = Value.pointer (some { block := n0, off := (2 : Nat) : Addr }) ∧ w25 = w25) ∧ rd (World.cell? (World.drew w1) { block := n0, off := (2 : Nat) : Addr }) fun v27 => (∀ (w28 : World), u2 w28 → rd (World.cell? w28 { block := n0, off := (2 : Nat) : Addr }) fun v30 => v30 = v27 ∧ w28 = w28) ∧ isK IntKind.i64 v27 fun i31 => (∀ (w32 : World), u2 w32 → Value.int IntKind.u64 (IntKind.wrap IntKind.u64 i31) = Value.int IntKind.u64 (IntKind.wrap IntKind.u64 i31) ∧ w32 = w32) ∧ (∀ (w34 : World), u2 w34 → Value.int IntKind.i64 b = Value.int IntKind.i64 b ∧ w34 = w34) ∧ callV Tryz.prog (84 : Nat) [Value.int IntKind.u64 (IntKind.wrap IntKind.u64 i9), Value.int IntKind.i64 b] (World.drew w1) fun v36 w37 => isStr v36 fun x38 => u2 w37 ∧ callV Tryz.prog (84 : Nat) [Value.int IntKind.u64 (IntKind.wrap IntKind.u64 i20), Value.int IntKind.i64 b] w37 fun v39 w40 => isStr v39 fun x41 => u2 w40 ∧ rd (orO (binV BinOp.add (Value.string x38) (Value.string x41)) none) fun v42 => (∀ (w43 : World), u2 w43 → rd (orO (binV BinOp.add (Value.string x38) (Value.string x41)) none) fun v45 => v45 = v42 ∧ w43 = w43) ∧ isStr v42 fun x46 => callV Tryz.prog (84 : Nat) [Value.int IntKind.u64 (IntKind.wrap IntKind.u64 i31), Value.int IntKind.i64 b] w40 fun v47 w48 => isStr v47 fun x49 => u2 w48 ∧ rd (orO (binV BinOp.add (Value.string x46) (Value.string x49)) none) fun v50 => (∀ (w51 : World), u2 w51 → rd (orO (binV BinOp.add (Value.string x46) (Value.string x49)) none) fun v53 => v53 = v50 ∧ w51 = w51) ∧ isStr v50 fun x54 => (∀ (w55 : World), u2 w55 → Value.string x54 = Value.string x54 ∧ w55 = w55) ∧ R (Value.string x54) w48) :
 callV Tryz.prog 97 [Value.agg #[Value.int IntKind.i64 a0, Value.int IntKind.i64 a1, Value.int IntKind.i64 a2], Value.int IntKind.i64 b] w R :=
 vc_of hm ⟨fun _ => false, fun n => match n with | 1 => .take 0 (.take 1 (.take 2 (.take 3 (.take 5 (.take 6 (.take 7 (.take 8 (.take 11 (.take 12 (.take 13 (.take 14 (.one 4 (.one 9 (.take 10 (.one 15 (.take 16 (.take 17 (.done)))))))))))))))))) | _ => .done, fun _ => []⟩ Tryz.func97 ent97 (by kernel_rfl) h
end Go.Proofs.YtipikchkbmgloaaGreatDoor
namespace Go.Proofs.YtipikchkbmgloaaGreatDoor
set_option linter.unusedSimpArgs false
set_option linter.unusedVariables false
open Go Go.RowKit VC
def txt (bs : List Int) : ByteArray := strOfNums (bs.map (48 + ·))
theorem strOfNums_app (xs ys : List Int) : strOfNums xs ++ strOfNums ys = strOfNums (xs ++ ys) := by
 unfold strOfNums
 rw [ByteArray.mk_append_mk, List.map_append]
theorem txt_app (xs ys : List Int) : txt xs ++ txt ys = txt (xs ++ ys) := by unfold txt; rw [strOfNums_app, List.map_append]
theorem txt_size (bs : List Int) : (txt bs).size = bs.length := by unfold txt; rw [strOfNums_size, List.length_map]
theorem bv_cat {a b : ByteArray} (h : a.size + b.size ≤ 9223372036854775807) : binV .add (.string a) (.string b) = some (.string (a ++ b)) := catS_of h
theorem txt_r {bs : List Int} (h : ∀ b ∈ bs, Bit b) : ∀ y ∈ bs.map (48 + ·), 0 ≤ y ∧ y < 256 := by
 intro y hy
 obtain ⟨b, hb, rfl⟩ := List.mem_map.1 hy
 have := h b hb
 unfold Bit at this
 omega
variable {w : World}
theorem cat_txt {K : Value → Prop} {xs ys : List Int} (h : xs.length + ys.length ≤ 1000000000) (k : K (.string (txt (xs ++ ys)))) : rd (orO (binV .add (.string (txt xs)) (.string (txt ys))) none) K := by
 rw [bv_cat (by rw [txt_size, txt_size]; omega), txt_app]
 exact k
theorem count61_c (k : Nat) (hk : k ≤ 64) : callV Tryz.prog 96 [.int .i64 k] w fun v w' => v = .int .i64 k ∧ w' = w := by
 refine vc96 k w _ ⟨?_, rfl⟩
 congr 1; omega
set_option maxRecDepth 20000 in
theorem text47_c (m k : Nat) (hm : m < 18446744073709551616) (hk : k ≤ 64) : callV Tryz.prog 84 [.int .u64 m, .int .i64 k] w fun v w' => v = .string (txt (bitsOf (m : Int) k)) ∧ Fm none' w w' := by
 refine vc84 m k w _ ?_
 refine ⟨fun u w' => ∃ i : Nat, i ≤ k ∧ u 0 = .int .u64 ((m / 2 ^ i : Nat) : Int) ∧ u 5 = .string (txt (bitsOf (m : Int) i)) ∧ u 6 = .int .i64 i ∧ Fm none' w w', fun u _ => k - (intOf (u 6)).toNat, ⟨0, by omega, by simp [alist], rfl, rfl, Fm.refl _ _⟩, ?_⟩
 rintro u w3 ⟨i, hi, h0, h5, h6, hF⟩
 change u 0 = _ at h0
 change u 5 = _ at h5
 change u 6 = _ at h6
 simp only [h0, h5, h6, vq, eqV, nilV]
 refine (count61_c k hk).mono ?_
 rintro _ w7 ⟨rfl, rfl⟩
 simp only [vq, eqV, nilV]
 refine br_dec (fun hik => ?_) (fun hik => ?_)
 ·have hb : bitAt (m : Int) i = ((m / 2 ^ i % 2 : Nat) : Int) := by rw [bitAt_nat _ _ (by omega), Nat.toNat_testBit]
  have ht : Int.tmod ((m / 2 ^ i : Nat) : Int) 2 = ((m / 2 ^ i % 2 : Nat) : Int) := by rw [Int.tmod_eq_emod_of_nonneg (Int.natCast_nonneg _)]; norm_cast
  have hd : Int.tdiv ((m / 2 ^ i : Nat) : Int) 2 = ((m / 2 ^ (i + 1) : Nat) : Int) := by
   rw [Int.tdiv_eq_ediv_of_nonneg (Int.natCast_nonneg _), Nat.pow_succ, ← Nat.div_div_eq_div_mul]; norm_cast
  have hlt : m / 2 ^ (i + 1) ≤ m := Nat.div_le_self _ _
  rw [ht, hd, u64n (by omega), w64 (by omega)]
  rw [show (48 : Int) + ((m / 2 ^ i % 2 : Nat) : Int) = ((48 + m / 2 ^ i % 2 : Nat) : Int) by push_cast; rfl, u64n (by omega), u8n (by omega)]
  refine build_1 (by rw [row39]) row5 rfl rfl fun w11 hb11 hs11 hf11 => ?_
  simp only [vq, eqV, nilV]
  refine conv_bytes (ys := [((48 + m / 2 ^ i % 2 : Nat) : Int)]) (by rw [row39]) (by rw [row5]) (by rw [row9]) rfl (fun j y hj => ?_) ?_
  ·obtain rfl : j = 0 := by have := (List.getElem?_eq_some_iff.1 hj).1; simp at this; omega
   simp at hj; subst hj
   exact ⟨_, rfl, cellOf hb11 (by simp)⟩
  simp only [vq, eqV, nilV]
  have e1 : strOfNums [((48 + m / 2 ^ i % 2 : Nat) : Int)] = txt [bitAt (m : Int) i] := by
   unfold txt; rw [hb]; simp
  rw [e1]
  refine cat_txt (by simp [bitsOf_length]; omega) ?_
  simp only [vq, eqV, nilV]
  refine ⟨⟨i + 1, by omega, rfl, ?_, rfl, hF.trans hf11⟩, ?_⟩
  ·show Value.string _ = _
   rw [bitsOf_succ]; rfl
  ·show k - ((i : Int) + 1).toNat < k - (i : Int).toNat; omega
 ·obtain rfl : i = k := by omega
  exact ⟨rfl, hF⟩
theorem val_take_succ {bs : List Int} {j : Nat} {b : Int} (h : bs[j]? = some b) : val (bs.take (j + 1)) = 2 * val (bs.take j) + b := by
 rw [List.take_add_one, h]
 exact val_snoc _ _
set_option maxRecDepth 20000 in
theorem number55_c {bs : List Int} (hb : ∀ b ∈ bs, Bit b) (hl : bs.length ≤ 64) : callV Tryz.prog 91 [.string (txt bs)] w fun v w' => v = .int .u64 (val bs) ∧ Fm none' w w' := by
 refine vc91 _ w _ ?_
 rw [txt_size]
 refine ⟨fun u w' => ∃ j : Nat, j ≤ bs.length ∧ u 3 = .int .u64 (val (bs.take j)) ∧ u 4 = .int .i64 j ∧ Fm none' w w', fun u _ => bs.length - (intOf (u 4)).toNat, ⟨0, by omega, rfl, rfl, Fm.refl _ _⟩, ?_⟩
 rintro u w3 ⟨j, hj, h3, h4, hF⟩
 change u 3 = _ at h3
 change u 4 = _ at h4
 simp only [h3, h4, vq, eqV, nilV]
 refine br_dec (fun hjl => ?_) (fun hjl => ?_)
 ·obtain ⟨b, hbj⟩ : ∃ b, bs[j]? = some b := ⟨bs[j]'(by omega), by simp⟩
  have hbb := hb b (List.mem_of_getElem? hbj)
  refine index_str (ys := bs.map (48 + ·)) (by rw [row9]) (txt_r hb) (by rw [List.getElem?_map, hbj]; rfl) ?_
  simp only [vq, eqV, nilV]
  have hv := val_take_succ hbj
  have hlt := val_bound (bs := bs.take (j + 1)) fun x hx => hb x (List.mem_of_mem_take hx)
  have hl1 : (bs.take (j + 1)).length = j + 1 := by rw [List.length_take]; omega
  rw [hl1] at hlt
  have hpw : (2 : Int) ^ (j + 1) ≤ 18446744073709551616 := by
   have : (2 : Nat) ^ (j + 1) ≤ 2 ^ 64 := Nat.pow_le_pow_right (by omega) (by omega)
   have h64 : (2 : Nat) ^ 64 = 18446744073709551616 := rfl
   rw [h64] at this
   have h2 := Int.ofNat_le.2 this
   rw [Int.natCast_pow] at h2
   exact h2
  have h0 := (val_bound (bs := bs.take j) fun x hx => hb x (List.mem_of_mem_take hx)).1
  have e1 : IntKind.u8.wrap (48 + b - 48) = b := by rcases hbb with rfl | rfl <;> rfl
  unfold Bit at hbb
  rw [e1, u64w b, u64w (val (bs.take j) * 2), u64w, w64 (by omega)]
  refine ⟨⟨j + 1, by omega, ?_, rfl, hF⟩, ?_⟩
  ·show Value.int _ _ = Value.int _ _
   congr 1
   rw [hv]
   omega
  ·show bs.length - ((j : Int) + 1).toNat < bs.length - (j : Int).toNat; omega
 ·have : j = bs.length := by omega
  subst this
  rw [List.take_length]
  exact ⟨rfl, hF⟩
end Go.Proofs.YtipikchkbmgloaaGreatDoor
namespace Go.Proofs.YtipikchkbmgloaaGreatDoor
set_option linter.unusedSimpArgs false
set_option linter.unusedVariables false
open Go VC
theorem vc19 (a0 : Int) (a1 : Int) (a20 : Int) (a21 : Int) (a22 : Int) (a23 : Int) (a24 : Int) (a3 : Int) (a4 : Int) (a5 : Int) (a60 : Int) (a61 : Int) (a62 : Int) (a7 : Int) (a80 : Int) (a81 : Int) (a82 : Int) (a90 : Int) (a91 : Int) (a92 : Int) (a10 : Int) (a11 : Int) (a12p : Option Addr) (a12n : Nat) (a12c : Nat) (w : World) (R : Value → World → Prop)
 (h : allocC w (Obj.cells #[Value.int IntKind.i64 a0, Value.int IntKind.u16 a1, Value.int IntKind.u16 a20, Value.int IntKind.u8 a21, Value.int IntKind.i8 a22, Value.int IntKind.i8 a23, Value.int IntKind.i64 a24, Value.int IntKind.u16 a3, Value.int IntKind.i64 a4, Value.int IntKind.i64 a5, Value.int IntKind.i64 a60, Value.int IntKind.i64 a61, Value.int IntKind.i64 a62, Value.int IntKind.i64 a7, Value.int IntKind.i64 a80, Value.int IntKind.i64 a81, Value.int IntKind.i64 a82, Value.int IntKind.i64 a90, Value.int IntKind.i64 a91, Value.int IntKind.i64 a92, Value.int IntKind.u32 a10, Value.int IntKind.u32 a11, Value.slice a12p a12n a12c] (41 : Nat)) fun n0 w1 => cutC (fun u2 => heldC (World.drew w1) fun u3 => rd (cellsAt (World.drew w1) { block := n0, off := (0 : Nat) : Addr } (23 : Nat)) fun l4 => (∀ (w5 : World), u3 w5 → rd (cellsAt w5 { block := n0, off := (0 : Nat) : Addr } (23 : Nat)) fun l7 => Value.agg (List.toArray l7) = Value.agg (List.toArray l4) ∧ w5 = w5) ∧ rd (cellsAt (World.drew w1) { block := n0, off := (0 : Nat) : Addr } (23 : Nat)) fun l8 => (∀ (w9 : World), u3 w9 → rd (cellsAt w9 { block := n0, off := (0 : Nat) : Addr } (23 : Nat)) fun l11 => Value.agg (List.toArray l11) = Value.agg (List.toArray l8) ∧ w9 = w9) ∧ callV Tryz.prog (43 : Nat) [Value.agg (List.toArray l8)] (World.drew w1) fun v12 w13 => u3 w13 ∧ callV Tryz.prog (42 : Nat) [Value.agg (List.toArray l4), v12] w13 fun v14 w15 => isB v14 fun t16 => u3 w15 ∧ (∀ (w17 : World), u3 w17 → Value.bool t16 = Value.bool t16 ∧ w17 = w17) ∧ u2 (alist [((3 : Nat), Value.bool t16)]) w15) fun u19 => ∀ (u20 : Nat → Value) (w21 : World), u19 (alist [((3 : Nat), u20 (3 : Nat))]) w21 → cutC (fun u23 => isB (u20 (3 : Nat)) fun t24 => br (!t24) (R (Value.bool false) w21) (rd (World.cell? w21 { block := n0, off := (0 : Nat) : Addr }) fun v25 => isK IntKind.i64 v25 fun i26 => br (decide (i26 < (1 : Int))) (R (Value.bool false) w21) (rd (World.cell? w21 { block := n0, off := (0 : Nat) : Addr }) fun v27 => isK IntKind.i64 v27 fun i28 => br (decide ((9 : Int) < i28)) (R (Value.bool false) w21) (u23 (alist []) w21)))) fun u29 => ∀ (u30 : Nat → Value) (w31 : World), u29 (alist []) w31 → rd (World.cell? w31 { block := n0, off := (0 : Nat) : Addr }) fun v33 => isK IntKind.i64 v33 fun i34 => br (decide (i34 = (2 : Int))) (rd (World.cell? w31 { block := n0, off := (3 : Nat) : Addr }) fun v35 => isK IntKind.u8 v35 fun i36 => br (decide (i36 < (4 : Int))) (rd (World.cell? w31 { block := n0, off := (6 : Nat) : Addr }) fun v37 => isK IntKind.i64 v37 fun i38 => br (decide ((1 : Int) ≤ i38)) (rd (World.cell? w31 { block := n0, off := (6 : Nat) : Addr }) fun v39 => isK IntKind.i64 v39 fun i40 => R (Value.bool (decide (i40 ≤ (8 : Int)))) w31) (R (Value.bool false) w31)) (R (Value.bool false) w31)) (br (decide (i34 = (3 : Int))) (rd (World.cell? w31 { block := n0, off := (9 : Nat) : Addr }) fun v41 => isK IntKind.i64 v41 fun i42 => br (decide (i42 = (0 : Int))) (rd (cellsAt w31 { block := n0, off := (10 : Nat) : Addr } (3 : Nat)) fun l43 => callV Tryz.prog (44 : Nat) [Value.agg (List.toArray l43), Value.int IntKind.i64 (-65536 : Int), Value.int IntKind.i64 (65536 : Int)] w31 fun v44 w45 => isB v44 fun t46 => R (Value.bool t46) w45) (rd (World.cell? w31 { block := n0, off := (9 : Nat) : Addr }) fun v47 => isK IntKind.i64 v47 fun i48 => br (decide (i48 = (1 : Int))) (rd (cellsAt w31 { block := n0, off := (10 : Nat) : Addr } (3 : Nat)) fun l49 => callV Tryz.prog (44 : Nat) [Value.agg (List.toArray l49), Value.int IntKind.i64 (-65536 : Int), Value.int IntKind.i64 (65536 : Int)] w31 fun v50 w51 => isB v50 fun t52 => R (Value.bool t52) w51) (R (Value.bool false) w31))) (br (decide (i34 = (5 : Int))) (rd (World.cell? w31 { block := n0, off := (8 : Nat) : Addr }) fun v53 => isK IntKind.i64 v53 fun i54 => br (decide ((1 : Int) ≤ i54)) (rd (World.cell? w31 { block := n0, off := (8 : Nat) : Addr }) fun v55 => isK IntKind.i64 v55 fun i56 => R (Value.bool (decide (i56 ≤ (2147483647 : Int)))) w31) (R (Value.bool false) w31)) (br (decide (i34 = (7 : Int))) (rd (World.cell? w31 { block := n0, off := (8 : Nat) : Addr }) fun v57 => isK IntKind.i64 v57 fun i58 => br (decide ((1 : Int) ≤ i58)) (rd (World.cell? w31 { block := n0, off := (8 : Nat) : Addr }) fun v59 => isK IntKind.i64 v59 fun i60 => R (Value.bool (decide (i60 ≤ (2147483647 : Int)))) w31) (R (Value.bool false) w31)) (br (decide (i34 = (6 : Int))) (rd (cellsAt w31 { block := n0, off := (14 : Nat) : Addr } (3 : Nat)) fun l61 => callV Tryz.prog (44 : Nat) [Value.agg (List.toArray l61), Value.int IntKind.i64 (-2147483648 : Int), Value.int IntKind.i64 (2147483647 : Int)] w31 fun v62 w63 => isB v62 fun t64 => br t64 (rd (cellsAt w63 { block := n0, off := (17 : Nat) : Addr } (3 : Nat)) fun l65 => callV Tryz.prog (44 : Nat) [Value.agg (List.toArray l65), Value.int IntKind.i64 (-2147483648 : Int), Value.int IntKind.i64 (2147483647 : Int)] w63 fun v66 w67 => isB v66 fun t68 => R (Value.bool t68) w67) (R (Value.bool false) w63)) (br (decide (i34 = (8 : Int))) (rd (World.cell? w31 { block := n0, off := (13 : Nat) : Addr }) fun v69 => isK IntKind.i64 v69 fun i70 => br (decide ((1 : Int) ≤ i70)) (rd (World.cell? w31 { block := n0, off := (13 : Nat) : Addr }) fun v71 => isK IntKind.i64 v71 fun i72 => R (Value.bool (decide (i72 ≤ (10 : Int)))) w31) (R (Value.bool false) w31)) (br (decide (i34 = (9 : Int))) (rd (World.cell? w31 { block := n0, off := (22 : Nat) : Addr }) fun v73 => isSl v73 fun o74 n75 n76 => R (Value.bool (decide ((↑n75 : Int) ≤ (1023 : Int)))) w31) (R (Value.bool true) w31)))))))) :
 callV Tryz.prog 19 [Value.agg #[Value.int IntKind.i64 a0, Value.int IntKind.u16 a1, Value.int IntKind.u16 a20, Value.int IntKind.u8 a21, Value.int IntKind.i8 a22, Value.int IntKind.i8 a23, Value.int IntKind.i64 a24, Value.int IntKind.u16 a3, Value.int IntKind.i64 a4, Value.int IntKind.i64 a5, Value.int IntKind.i64 a60, Value.int IntKind.i64 a61, Value.int IntKind.i64 a62, Value.int IntKind.i64 a7, Value.int IntKind.i64 a80, Value.int IntKind.i64 a81, Value.int IntKind.i64 a82, Value.int IntKind.i64 a90, Value.int IntKind.i64 a91, Value.int IntKind.i64 a92, Value.int IntKind.u32 a10, Value.int IntKind.u32 a11, Value.slice a12p a12n a12c]] w R :=
 vc_of hm ⟨fun n => match n with | 2 => true | 4 => true | _ => false, fun n => match n with | 1 => .take 0 (.take 1 (.one 2 (.one 3 (.take 4 (.done))))) | _ => .done, fun n => match n with | 2 => [3] | 4 => [] | _ => []⟩ Tryz.func19 ent19 (by kernel_rfl) h
theorem vc43 (a0 : Int) (a1 : Int) (a20 : Int) (a21 : Int) (a22 : Int) (a23 : Int) (a24 : Int) (a3 : Int) (a4 : Int) (a5 : Int) (a60 : Int) (a61 : Int) (a62 : Int) (a7 : Int) (a80 : Int) (a81 : Int) (a82 : Int) (a90 : Int) (a91 : Int) (a92 : Int) (a10 : Int) (a11 : Int) (a12p : Option Addr) (a12n : Nat) (a12c : Nat) (w : World) (R : Value → World → Prop)
 (h : allocC w (Obj.cells #[Value.int IntKind.i64 a0, Value.int IntKind.u16 a1, Value.int IntKind.u16 a20, Value.int IntKind.u8 a21, Value.int IntKind.i8 a22, Value.int IntKind.i8 a23, Value.int IntKind.i64 a24, Value.int IntKind.u16 a3, Value.int IntKind.i64 a4, Value.int IntKind.i64 a5, Value.int IntKind.i64 a60, Value.int IntKind.i64 a61, Value.int IntKind.i64 a62, Value.int IntKind.i64 a7, Value.int IntKind.i64 a80, Value.int IntKind.i64 a81, Value.int IntKind.i64 a82, Value.int IntKind.i64 a90, Value.int IntKind.i64 a91, Value.int IntKind.i64 a92, Value.int IntKind.u32 a10, Value.int IntKind.u32 a11, Value.slice a12p a12n a12c] (41 : Nat)) fun n0 w1 => allocC w1 (Obj.cells #[Value.int IntKind.i64 (0 : Int), Value.int IntKind.u16 (0 : Int), Value.int IntKind.u16 (0 : Int), Value.int IntKind.u8 (0 : Int), Value.int IntKind.i8 (0 : Int), Value.int IntKind.i8 (0 : Int), Value.int IntKind.i64 (0 : Int), Value.int IntKind.u16 (0 : Int), Value.int IntKind.i64 (0 : Int), Value.int IntKind.i64 (0 : Int), Value.int IntKind.i64 (0 : Int), Value.int IntKind.i64 (0 : Int), Value.int IntKind.i64 (0 : Int), Value.int IntKind.i64 (0 : Int), Value.int IntKind.i64 (0 : Int), Value.int IntKind.i64 (0 : Int), Value.int IntKind.i64 (0 : Int), Value.int IntKind.i64 (0 : Int), Value.int IntKind.i64 (0 : Int), Value.int IntKind.i64 (0 : Int), Value.int IntKind.u32 (0 : Int), Value.int IntKind.u32 (0 : Int), Value.slice none (0 : Nat) (0 : Nat)] (41 : Nat)) fun n2 w3 => rd (World.cell? w3 { block := n0, off := (0 : Nat) : Addr }) fun v4 => isK IntKind.i64 v4 fun i5 => allocC w3 (Obj.cells #[Value.int IntKind.i64 (0 : Int), Value.int IntKind.u16 (0 : Int), Value.int IntKind.u16 (0 : Int), Value.int IntKind.u8 (0 : Int), Value.int IntKind.i8 (0 : Int), Value.int IntKind.i8 (0 : Int), Value.int IntKind.i64 (0 : Int), Value.int IntKind.u16 (0 : Int), Value.int IntKind.i64 (0 : Int), Value.int IntKind.i64 (0 : Int), Value.int IntKind.i64 (0 : Int), Value.int IntKind.i64 (0 : Int), Value.int IntKind.i64 (0 : Int), Value.int IntKind.i64 (0 : Int), Value.int IntKind.i64 (0 : Int), Value.int IntKind.i64 (0 : Int), Value.int IntKind.i64 (0 : Int), Value.int IntKind.i64 (0 : Int), Value.int IntKind.i64 (0 : Int), Value.int IntKind.i64 (0 : Int), Value.int IntKind.u32 (0 : Int), Value.int IntKind.u32 (0 : Int), Value.slice none (0 : Nat) (0 : Nat)] (41 : Nat)) fun n6 w7 => stC w7 { block := n6, off := (0 : Nat) : Addr } [Value.int IntKind.i64 i5, Value.int IntKind.u16 (0 : Int), Value.int IntKind.u16 (0 : Int), Value.int IntKind.u8 (0 : Int), Value.int IntKind.i8 (0 : Int), Value.int IntKind.i8 (0 : Int), Value.int IntKind.i64 (0 : Int), Value.int IntKind.u16 (0 : Int), Value.int IntKind.i64 (0 : Int), Value.int IntKind.i64 (0 : Int), Value.int IntKind.i64 (0 : Int), Value.int IntKind.i64 (0 : Int), Value.int IntKind.i64 (0 : Int), Value.int IntKind.i64 (0 : Int), Value.int IntKind.i64 (0 : Int), Value.int IntKind.i64 (0 : Int), Value.int IntKind.i64 (0 : Int), Value.int IntKind.i64 (0 : Int), Value.int IntKind.i64 (0 : Int), Value.int IntKind.i64 (0 : Int), Value.int IntKind.u32 (0 : Int), Value.int IntKind.u32 (0 : Int), Value.slice none (0 : Nat) (0 : Nat)] fun w8 => cutC (fun u9 => rd (World.cell? w8 { block := n0, off := (0 : Nat) : Addr }) fun v10 => isK IntKind.i64 v10 fun i11 => br (decide (i11 = (2 : Int))) (rd (cellsAt w8 { block := n0, off := (2 : Nat) : Addr } (5 : Nat)) fun l12 => rd (gd (List.length l12 == (5 : Nat))) fun _x => stC w8 { block := n6, off := (2 : Nat) : Addr } l12 fun w13 => u9 (alist []) w13) (br (decide (i11 = (3 : Int))) (rd (World.cell? w8 { block := n0, off := (7 : Nat) : Addr }) fun v14 => isK IntKind.u16 v14 fun i15 => stC w8 { block := n6, off := (7 : Nat) : Addr } [Value.int IntKind.u16 i15] fun w16 => rd (World.cell? w16 { block := n0, off := (9 : Nat) : Addr }) fun v17 => isK IntKind.i64 v17 fun i18 => stC w16 { block := n6, off := (9 : Nat) : Addr } [Value.int IntKind.i64 i18] fun w19 => rd (cellsAt w19 { block := n0, off := (10 : Nat) : Addr } (3 : Nat)) fun l20 => rd (gd (List.length l20 == (3 : Nat))) fun _x => stC w19 { block := n6, off := (10 : Nat) : Addr } l20 fun w21 => u9 (alist []) w21) (br (decide (i11 = (5 : Int))) (rd (World.cell? w8 { block := n0, off := (8 : Nat) : Addr }) fun v22 => isK IntKind.i64 v22 fun i23 => stC w8 { block := n6, off := (8 : Nat) : Addr } [Value.int IntKind.i64 i23] fun w24 => u9 (alist []) w24) (br (decide (i11 = (6 : Int))) (rd (World.cell? w8 { block := n0, off := (1 : Nat) : Addr }) fun v25 => isK IntKind.u16 v25 fun i26 => stC w8 { block := n6, off := (1 : Nat) : Addr } [Value.int IntKind.u16 i26] fun w27 => rd (cellsAt w27 { block := n0, off := (14 : Nat) : Addr } (3 : Nat)) fun l28 => rd (gd (List.length l28 == (3 : Nat))) fun _x => stC w27 { block := n6, off := (14 : Nat) : Addr } l28 fun w29 => rd (cellsAt w29 { block := n0, off := (17 : Nat) : Addr } (3 : Nat)) fun l30 => rd (gd (List.length l30 == (3 : Nat))) fun _x => stC w29 { block := n6, off := (17 : Nat) : Addr } l30 fun w31 => u9 (alist []) w31) (br (decide (i11 = (7 : Int))) (rd (World.cell? w8 { block := n0, off := (7 : Nat) : Addr }) fun v32 => isK IntKind.u16 v32 fun i33 => stC w8 { block := n6, off := (7 : Nat) : Addr } [Value.int IntKind.u16 i33] fun w34 => rd (World.cell? w34 { block := n0, off := (8 : Nat) : Addr }) fun v35 => isK IntKind.i64 v35 fun i36 => stC w34 { block := n6, off := (8 : Nat) : Addr } [Value.int IntKind.i64 i36] fun w37 => u9 (alist []) w37) (br (decide (i11 = (8 : Int))) (rd (World.cell? w8 { block := n0, off := (7 : Nat) : Addr }) fun v38 => isK IntKind.u16 v38 fun i39 => stC w8 { block := n6, off := (7 : Nat) : Addr } [Value.int IntKind.u16 i39] fun w40 => rd (World.cell? w40 { block := n0, off := (13 : Nat) : Addr }) fun v41 => isK IntKind.i64 v41 fun i42 => stC w40 { block := n6, off := (13 : Nat) : Addr } [Value.int IntKind.i64 i42] fun w43 => u9 (alist []) w43) (br (decide (i11 = (9 : Int))) (rd (World.cell? w8 { block := n0, off := (20 : Nat) : Addr }) fun v44 => isK IntKind.u32 v44 fun i45 => stC w8 { block := n6, off := (20 : Nat) : Addr } [Value.int IntKind.u32 i45] fun w46 => rd (World.cell? w46 { block := n0, off := (21 : Nat) : Addr }) fun v47 => isK IntKind.u32 v47 fun i48 => stC w46 { block := n6, off := (21 : Nat) : Addr } [Value.int IntKind.u32 i48] fun w49 => rd (World.cell? w49 { block := n0, off := (22 : Nat) : Addr }) fun v50 => isSl v50 fun o51 n52 n53 => stC w49 { block := n6, off := (22 : Nat) : Addr } [Value.slice o51 n52 n53] fun w54 => u9 (alist []) w54) (u9 (alist []) w8)))))))) fun u55 => ∀ (u56 : Nat → Value) (w57 : World), u55 (alist []) w57 → rd (cellsAt w57 { block := n6, off := (0 : Nat) : Addr } (23 : Nat)) fun l59 => rd (gd (List.length l59 == (23 : Nat))) fun _x => stC w57 { block := n2, off := (0 : Nat) : Addr } l59 fun w60 => rd (cellsAt w60 { block := n2, off := (0 : Nat) : Addr } (23 : Nat)) fun l61 => R (Value.agg (List.toArray l61)) w60) :
 callV Tryz.prog 43 [Value.agg #[Value.int IntKind.i64 a0, Value.int IntKind.u16 a1, Value.int IntKind.u16 a20, Value.int IntKind.u8 a21, Value.int IntKind.i8 a22, Value.int IntKind.i8 a23, Value.int IntKind.i64 a24, Value.int IntKind.u16 a3, Value.int IntKind.i64 a4, Value.int IntKind.i64 a5, Value.int IntKind.i64 a60, Value.int IntKind.i64 a61, Value.int IntKind.i64 a62, Value.int IntKind.i64 a7, Value.int IntKind.i64 a80, Value.int IntKind.i64 a81, Value.int IntKind.i64 a82, Value.int IntKind.i64 a90, Value.int IntKind.i64 a91, Value.int IntKind.i64 a92, Value.int IntKind.u32 a10, Value.int IntKind.u32 a11, Value.slice a12p a12n a12c]] w R :=
 vc_of hm ⟨fun n => match n with | 25 => true | _ => false, fun _ => .done, fun n => match n with | 25 => [] | _ => []⟩ Tryz.func43 ent43 (by kernel_rfl) h
theorem vc85 (a0 : Int) (a1 : Int) (a20 : Int) (a21 : Int) (a22 : Int) (a23 : Int) (a24 : Int) (a3 : Int) (a4 : Int) (a5 : Int) (a60 : Int) (a61 : Int) (a62 : Int) (a7 : Int) (a80 : Int) (a81 : Int) (a82 : Int) (a90 : Int) (a91 : Int) (a92 : Int) (a10 : Int) (a11 : Int) (a12p : Option Addr) (a12n : Nat) (a12c : Nat) (w : World) (R : Value → World → Prop)
 (h : allocC w (Obj.cells #[Value.int IntKind.i64 a0, Value.int IntKind.u16 a1, Value.int IntKind.u16 a20, Value.int IntKind.u8 a21, Value.int IntKind.i8 a22, Value.int IntKind.i8 a23, Value.int IntKind.i64 a24, Value.int IntKind.u16 a3, Value.int IntKind.i64 a4, Value.int IntKind.i64 a5, Value.int IntKind.i64 a60, Value.int IntKind.i64 a61, Value.int IntKind.i64 a62, Value.int IntKind.i64 a7, Value.int IntKind.i64 a80, Value.int IntKind.i64 a81, Value.int IntKind.i64 a82, Value.int IntKind.i64 a90, Value.int IntKind.i64 a91, Value.int IntKind.i64 a92, Value.int IntKind.u32 a10, Value.int IntKind.u32 a11, Value.slice a12p a12n a12c] (41 : Nat)) fun n0 w1 => rd (World.cell? w1 { block := n0, off := (0 : Nat) : Addr }) fun v2 => isK IntKind.i64 v2 fun i3 => callV Tryz.prog (84 : Nat) [Value.int IntKind.u64 (IntKind.wrap IntKind.u64 i3), Value.int IntKind.i64 (4 : Int)] w1 fun v4 w5 => isStr v4 fun x6 => rd (World.cell? w5 { block := n0, off := (7 : Nat) : Addr }) fun v7 => isK IntKind.u16 v7 fun i8 => callV Tryz.prog (84 : Nat) [Value.int IntKind.u64 (IntKind.wrap IntKind.u64 i8), Value.int IntKind.i64 (16 : Int)] w5 fun v9 w10 => isStr v9 fun x11 => rd (World.cell? w10 { block := n0, off := (0 : Nat) : Addr }) fun v12 => isK IntKind.i64 v12 fun i13 => br (decide (i13 = (2 : Int))) (rd (cellsAt w10 { block := n0, off := (2 : Nat) : Addr } (5 : Nat)) fun l14 => allocC w10 (Obj.cells #[Value.int IntKind.u16 (0 : Int), Value.int IntKind.u8 (0 : Int), Value.int IntKind.i8 (0 : Int), Value.int IntKind.i8 (0 : Int), Value.int IntKind.i64 (0 : Int)] (35 : Nat)) fun n15 w16 => rd (gd (List.length l14 == (5 : Nat))) fun _x => stC w16 { block := n15, off := (0 : Nat) : Addr } l14 fun w17 => heldC (World.drew w17) fun u18 => (∀ (w19 : World), u18 w19 → Value.string x6 = Value.string x6 ∧ w19 = w19) ∧ (∀ (w21 : World), u18 w21 → Value.pointer (some { block := n15, off := (0 : Nat) : Addr }) = Value.pointer (some { block := n15, off := (0 : Nat) : Addr }) ∧ w21 = w21) ∧ rd (World.cell? (World.drew w17) { block := n15, off := (0 : Nat) : Addr }) fun v23 => (∀ (w24 : World), u18 w24 → rd (World.cell? w24 { block := n15, off := (0 : Nat) : Addr }) fun v26 => v26 = v23 ∧ w24 = w24) ∧ isK IntKind.u16 v23 fun i27 => (∀ (w28 : World), u18 w28 → Value.int IntKind.u64 (IntKind.wrap IntKind.u64 i27) = Value.int IntKind.u64 (IntKind.wrap IntKind.u64 i27) ∧ w28 = w28) ∧ (∀ (w30 : World), u18 w30 → Value.pointer (some { block := n15, off := (1 : Nat) : Addr }) = Value.pointer (some { block := n15, off := (1 : Nat) : Addr }) ∧ w30 = w30) ∧ rd (World.cell? (World.drew w17) { block := n15, off := (1 : Nat) : Addr }) fun v32 => (∀ (w33 : World), u18 w33 → rd (World.cell? w33 { block := n15, off := (1 : Nat) : Addr }) fun v35 => v35 = v32 ∧ w33 = w33) ∧ isK IntKind.u8 v32 fun i36 => (∀ (w37 : World), u18 w37 → Value.int IntKind.u64 (IntKind.wrap IntKind.u64 i36) = Value.int IntKind.u64 (IntKind.wrap IntKind.u64 i36) ∧ w37 = w37) ∧ callV Tryz.prog (84 : Nat) [Value.int IntKind.u64 (IntKind.wrap IntKind.u64 i27), Value.int IntKind.i64 (16 : Int)] (World.drew w17) fun v39 w40 => isStr v39 fun x41 => u18 w40 ∧ rd (orO (binV BinOp.add (Value.string x6) (Value.string x41)) none) fun v42 => (∀ (w43 : World), u18 w43 → rd (orO (binV BinOp.add (Value.string x6) (Value.string x41)) none) fun v45 => v45 = v42 ∧ w43 = w43) ∧ isStr v42 fun x46 => callV Tryz.prog (84 : Nat) [Value.int IntKind.u64 (IntKind.wrap IntKind.u64 i36), Value.int IntKind.i64 (2 : Int)] w40 fun v47 w48 => isStr v47 fun x49 => u18 w48 ∧ rd (orO (binV BinOp.add (Value.string x46) (Value.string x49)) none) fun v50 => (∀ (w51 : World), u18 w51 → rd (orO (binV BinOp.add (Value.string x46) (Value.string x49)) none) fun v53 => v53 = v50 ∧ w51 = w51) ∧ isStr v50 fun x54 => (∀ (w55 : World), u18 w55 → Value.string x54 = Value.string x54 ∧ w55 = w55) ∧ heldC (World.drew w48) fun u57 => (∀ (w58 : World), u57 w58 → Value.string x54 = Value.string x54 ∧ w58 = w58) ∧ (∀ (w60 : World), u57 w60 → Value.pointer (some { block := n15, off := (2 : Nat) : Addr }) = Value.pointer (some { block := n15, off := (2 : Nat) : Addr }) ∧ w60 = w60) ∧ rd (World.cell? (World.drew w48) { block := n15, off := (2 : Nat) : Addr }) fun v62 => (∀ (w63 : World), u57 w63 → rd (World.cell? w63 { block := n15, off := (2 : Nat) : Addr }) fun v65 => v65 = v62 ∧ w63 = w63) ∧ isK IntKind.i8 v62 fun i66 => (∀ (w67 : World), u57 w67 → Value.int IntKind.u64 (IntKind.wrap IntKind.u64 i66) = Value.int IntKind.u64 (IntKind.wrap IntKind.u64 i66) ∧ w67 = w67) ∧ (∀ (w69 : World), u57 w69 → Value.pointer (some { block := n15, off := (3 : Nat) : Addr }) = Value.pointer (some { block := n15, off := (3 : Nat) : Addr }) ∧ w69 = w69) ∧ rd (World.cell? (World.drew w48) { block := n15, off := (3 : Nat) : Addr }) fun v71 => (∀ (w72 : World), u57 w72 → rd (World.cell? w72 { block := n15, off := (3 : Nat) : Addr }) fun v74 => v74 = v71 ∧ w72 = w72) ∧ isK IntKind.i8 v71 fun i75 => (∀ (w76 : World), u57 w76 → Value.int IntKind.u64 (IntKind.wrap IntKind.u64 i75) = Value.int IntKind.u64 (IntKind.wrap IntKind.u64 i75) ∧ w76 = w76) ∧ (∀ (w78 : World), u57 w78 → Value.pointer (some { block := n15, off := (4 : Nat) : Addr }) = Value.pointer (some { block := n15, off := (4 : Nat) : Addr }) ∧ w78 = w78) ∧ rd (World.cell? (World.drew w48) { block := n15, off := (4 : Nat) : Addr }) fun v80 => (∀ (w81 : World), u57 w81 → rd (World.cell? w81 { block := n15, off := (4 : Nat) : Addr }) fun v83 => v83 = v80 ∧ w81 = w81) ∧ isK IntKind.i64 v80 fun i84 => (∀ (w85 : World), u57 w85 → Value.int IntKind.i64 (IntKind.wrap IntKind.i64 (i84 - (1 : Int))) = Value.int IntKind.i64 (IntKind.wrap IntKind.i64 (i84 - (1 : Int))) ∧ w85 = w85) ∧ (∀ (w87 : World), u57 w87 → Value.int IntKind.u64 (IntKind.wrap IntKind.u64 (IntKind.wrap IntKind.i64 (i84 - (1 : Int)))) = Value.int IntKind.u64 (IntKind.wrap IntKind.u64 (IntKind.wrap IntKind.i64 (i84 - (1 : Int)))) ∧ w87 = w87) ∧ callV Tryz.prog (84 : Nat) [Value.int IntKind.u64 (IntKind.wrap IntKind.u64 i66), Value.int IntKind.i64 (8 : Int)] (World.drew w48) fun v89 w90 => isStr v89 fun x91 => u57 w90 ∧ rd (orO (binV BinOp.add (Value.string x54) (Value.string x91)) none) fun v92 => (∀ (w93 : World), u57 w93 → rd (orO (binV BinOp.add (Value.string x54) (Value.string x91)) none) fun v95 => v95 = v92 ∧ w93 = w93) ∧ isStr v92 fun x96 => callV Tryz.prog (84 : Nat) [Value.int IntKind.u64 (IntKind.wrap IntKind.u64 i75), Value.int IntKind.i64 (8 : Int)] w90 fun v97 w98 => isStr v97 fun x99 => u57 w98 ∧ rd (orO (binV BinOp.add (Value.string x96) (Value.string x99)) none) fun v100 => (∀ (w101 : World), u57 w101 → rd (orO (binV BinOp.add (Value.string x96) (Value.string x99)) none) fun v103 => v103 = v100 ∧ w101 = w101) ∧ isStr v100 fun x104 => callV Tryz.prog (84 : Nat) [Value.int IntKind.u64 (IntKind.wrap IntKind.u64 (IntKind.wrap IntKind.i64 (i84 - (1 : Int)))), Value.int IntKind.i64 (3 : Int)] w98 fun v105 w106 => isStr v105 fun x107 => u57 w106 ∧ rd (orO (binV BinOp.add (Value.string x104) (Value.string x107)) none) fun v108 => (∀ (w109 : World), u57 w109 → rd (orO (binV BinOp.add (Value.string x104) (Value.string x107)) none) fun v111 => v111 = v108 ∧ w109 = w109) ∧ isStr v108 fun x112 => (∀ (w113 : World), u57 w113 → Value.string x112 = Value.string x112 ∧ w113 = w113) ∧ R (Value.string x112) w106) (br (decide (i13 = (3 : Int))) (heldC (World.drew w10) fun u115 => (∀ (w116 : World), u115 w116 → Value.string x6 = Value.string x6 ∧ w116 = w116) ∧ (∀ (w118 : World), u115 w118 → Value.string x11 = Value.string x11 ∧ w118 = w118) ∧ rd (orO (binV BinOp.add (Value.string x6) (Value.string x11)) none) fun v120 => (∀ (w121 : World), u115 w121 → rd (orO (binV BinOp.add (Value.string x6) (Value.string x11)) none) fun v123 => v123 = v120 ∧ w121 = w121) ∧ isStr v120 fun x124 => (∀ (w125 : World), u115 w125 → Value.pointer (some { block := n0, off := (9 : Nat) : Addr }) = Value.pointer (some { block := n0, off := (9 : Nat) : Addr }) ∧ w125 = w125) ∧ rd (World.cell? (World.drew w10) { block := n0, off := (9 : Nat) : Addr }) fun v127 => (∀ (w128 : World), u115 w128 → rd (World.cell? w128 { block := n0, off := (9 : Nat) : Addr }) fun v130 => v130 = v127 ∧ w128 = w128) ∧ isK IntKind.i64 v127 fun i131 => (∀ (w132 : World), u115 w132 → Value.int IntKind.u64 (IntKind.wrap IntKind.u64 i131) = Value.int IntKind.u64 (IntKind.wrap IntKind.u64 i131) ∧ w132 = w132) ∧ (∀ (w134 : World), u115 w134 → Value.pointer (some { block := n0, off := (10 : Nat) : Addr }) = Value.pointer (some { block := n0, off := (10 : Nat) : Addr }) ∧ w134 = w134) ∧ rd (cellsAt (World.drew w10) { block := n0, off := (10 : Nat) : Addr } (3 : Nat)) fun l136 => (∀ (w137 : World), u115 w137 → rd (cellsAt w137 { block := n0, off := (10 : Nat) : Addr } (3 : Nat)) fun l139 => Value.agg (List.toArray l139) = Value.agg (List.toArray l136) ∧ w137 = w137) ∧ callV Tryz.prog (84 : Nat) [Value.int IntKind.u64 (IntKind.wrap IntKind.u64 i131), Value.int IntKind.i64 (1 : Int)] (World.drew w10) fun v140 w141 => isStr v140 fun x142 => u115 w141 ∧ rd (orO (binV BinOp.add (Value.string x124) (Value.string x142)) none) fun v143 => (∀ (w144 : World), u115 w144 → rd (orO (binV BinOp.add (Value.string x124) (Value.string x142)) none) fun v146 => v146 = v143 ∧ w144 = w144) ∧ isStr v143 fun x147 => callV Tryz.prog (97 : Nat) [Value.agg (List.toArray l136), Value.int IntKind.i64 (18 : Int)] w141 fun v148 w149 => isStr v148 fun x150 => u115 w149 ∧ rd (orO (binV BinOp.add (Value.string x147) (Value.string x150)) none) fun v151 => (∀ (w152 : World), u115 w152 → rd (orO (binV BinOp.add (Value.string x147) (Value.string x150)) none) fun v154 => v154 = v151 ∧ w152 = w152) ∧ isStr v151 fun x155 => (∀ (w156 : World), u115 w156 → Value.string x155 = Value.string x155 ∧ w156 = w156) ∧ R (Value.string x155) w149) (br (decide (i13 = (5 : Int))) (rd (World.cell? w10 { block := n0, off := (8 : Nat) : Addr }) fun v158 => isK IntKind.i64 v158 fun i159 => callV Tryz.prog (84 : Nat) [Value.int IntKind.u64 (IntKind.wrap IntKind.u64 i159), Value.int IntKind.i64 (31 : Int)] w10 fun v160 w161 => isStr v160 fun x162 => rd (orO (binV BinOp.add (Value.string x6) (Value.string x162)) none) fun v163 => isStr v163 fun x164 => R (Value.string x164) w161) (br (decide (i13 = (6 : Int))) (heldC (World.drew w10) fun u165 => (∀ (w166 : World), u165 w166 → Value.string x6 = Value.string x6 ∧ w166 = w166) ∧ (∀ (w168 : World), u165 w168 → Value.pointer (some { block := n0, off := (1 : Nat) : Addr }) = Value.pointer (some { block := n0, off := (1 : Nat) : Addr }) ∧ w168 = w168) ∧ rd (World.cell? (World.drew w10) { block := n0, off := (1 : Nat) : Addr }) fun v170 => (∀ (w171 : World), u165 w171 → rd (World.cell? w171 { block := n0, off := (1 : Nat) : Addr }) fun v173 => v173 = v170 ∧ w171 = w171) ∧ isK IntKind.u16 v170 fun i174 => (∀ (w175 : World), u165 w175 → Value.int IntKind.u64 (IntKind.wrap IntKind.u64 i174) = Value.int IntKind.u64 (IntKind.wrap IntKind.u64 i174) ∧ w175 = w175) ∧ (∀ (w177 : World), u165 w177 → Value.pointer (some { block := n0, off := (14 : Nat) : Addr }) = Value.pointer (some { block := n0, off := (14 : Nat) : Addr }) ∧ w177 = w177) ∧ rd (cellsAt (World.drew w10) { block := n0, off := (14 : Nat) : Addr } (3 : Nat)) fun l179 => (∀ (w180 : World), u165 w180 → rd (cellsAt w180 { block := n0, off := (14 : Nat) : Addr } (3 : Nat)) fun l182 => Value.agg (List.toArray l182) = Value.agg (List.toArray l179) ∧ w180 = w180) ∧ (∀ (w183 : World), u165 w183 → Value.pointer (some { block := n0, off := (17 : Nat) : Addr }) = Value.pointer (some { block := n0, off := (17 : Nat) : Addr }) ∧ w183 = w183) ∧ rd (cellsAt (World.drew w10) { block := n0, off := (17 : Nat) : Addr } (3 : Nat)) fun l185 => (∀ (w186 : World), u165 w186 → rd (cellsAt w186 { block := n0, off := (17 : Nat) : Addr } (3 : Nat)) fun l188 => Value.agg (List.toArray l188) = Value.agg (List.toArray l185) ∧ w186 = w186) ∧ callV Tryz.prog (84 : Nat) [Value.int IntKind.u64 (IntKind.wrap IntKind.u64 i174), Value.int IntKind.i64 (16 : Int)] (World.drew w10) fun v189 w190 => isStr v189 fun x191 => u165 w190 ∧ rd (orO (binV BinOp.add (Value.string x6) (Value.string x191)) none) fun v192 => (∀ (w193 : World), u165 w193 → rd (orO (binV BinOp.add (Value.string x6) (Value.string x191)) none) fun v195 => v195 = v192 ∧ w193 = w193) ∧ isStr v192 fun x196 => callV Tryz.prog (97 : Nat) [Value.agg (List.toArray l179), Value.int IntKind.i64 (32 : Int)] w190 fun v197 w198 => isStr v197 fun x199 => u165 w198 ∧ rd (orO (binV BinOp.add (Value.string x196) (Value.string x199)) none) fun v200 => (∀ (w201 : World), u165 w201 → rd (orO (binV BinOp.add (Value.string x196) (Value.string x199)) none) fun v203 => v203 = v200 ∧ w201 = w201) ∧ isStr v200 fun x204 => callV Tryz.prog (97 : Nat) [Value.agg (List.toArray l185), Value.int IntKind.i64 (32 : Int)] w198 fun v205 w206 => isStr v205 fun x207 => u165 w206 ∧ rd (orO (binV BinOp.add (Value.string x204) (Value.string x207)) none) fun v208 => (∀ (w209 : World), u165 w209 → rd (orO (binV BinOp.add (Value.string x204) (Value.string x207)) none) fun v211 => v211 = v208 ∧ w209 = w209) ∧ isStr v208 fun x212 => (∀ (w213 : World), u165 w213 → Value.string x212 = Value.string x212 ∧ w213 = w213) ∧ R (Value.string x212) w206) (br (decide (i13 = (7 : Int))) (rd (orO (binV BinOp.add (Value.string x6) (Value.string x11)) none) fun v215 => isStr v215 fun x216 => rd (World.cell? w10 { block := n0, off := (8 : Nat) : Addr }) fun v217 => isK IntKind.i64 v217 fun i218 => callV Tryz.prog (84 : Nat) [Value.int IntKind.u64 (IntKind.wrap IntKind.u64 i218), Value.int IntKind.i64 (31 : Int)] w10 fun v219 w220 => isStr v219 fun x221 => rd (orO (binV BinOp.add (Value.string x216) (Value.string x221)) none) fun v222 => isStr v222 fun x223 => R (Value.string x223) w220) (br (decide (i13 = (8 : Int))) (rd (orO (binV BinOp.add (Value.string x6) (Value.string x11)) none) fun v224 => isStr v224 fun x225 => rd (World.cell? w10 { block := n0, off := (13 : Nat) : Addr }) fun v226 => isK IntKind.i64 v226 fun i227 => callV Tryz.prog (84 : Nat) [Value.int IntKind.u64 (IntKind.wrap IntKind.u64 i227), Value.int IntKind.i64 (4 : Int)] w10 fun v228 w229 => isStr v228 fun x230 => rd (orO (binV BinOp.add (Value.string x225) (Value.string x230)) none) fun v231 => isStr v231 fun x232 => R (Value.string x232) w229) (br (decide (i13 = (9 : Int))) (heldC (World.drew w10) fun u233 => (∀ (w234 : World), u233 w234 → Value.string x6 = Value.string x6 ∧ w234 = w234) ∧ (∀ (w236 : World), u233 w236 → Value.pointer (some { block := n0, off := (20 : Nat) : Addr }) = Value.pointer (some { block := n0, off := (20 : Nat) : Addr }) ∧ w236 = w236) ∧ rd (World.cell? (World.drew w10) { block := n0, off := (20 : Nat) : Addr }) fun v238 => (∀ (w239 : World), u233 w239 → rd (World.cell? w239 { block := n0, off := (20 : Nat) : Addr }) fun v241 => v241 = v238 ∧ w239 = w239) ∧ isK IntKind.u32 v238 fun i242 => (∀ (w243 : World), u233 w243 → Value.int IntKind.u64 (IntKind.wrap IntKind.u64 i242) = Value.int IntKind.u64 (IntKind.wrap IntKind.u64 i242) ∧ w243 = w243) ∧ (∀ (w245 : World), u233 w245 → Value.pointer (some { block := n0, off := (21 : Nat) : Addr }) = Value.pointer (some { block := n0, off := (21 : Nat) : Addr }) ∧ w245 = w245) ∧ rd (World.cell? (World.drew w10) { block := n0, off := (21 : Nat) : Addr }) fun v247 => (∀ (w248 : World), u233 w248 → rd (World.cell? w248 { block := n0, off := (21 : Nat) : Addr }) fun v250 => v250 = v247 ∧ w248 = w248) ∧ isK IntKind.u32 v247 fun i251 => (∀ (w252 : World), u233 w252 → Value.int IntKind.u64 (IntKind.wrap IntKind.u64 i251) = Value.int IntKind.u64 (IntKind.wrap IntKind.u64 i251) ∧ w252 = w252) ∧ (∀ (w254 : World), u233 w254 → Value.pointer (some { block := n0, off := (22 : Nat) : Addr }) = Value.pointer (some { block := n0, off := (22 : Nat) : Addr }) ∧ w254 = w254) ∧ rd (World.cell? (World.drew w10) { block := n0, off := (22 : Nat) : Addr }) fun v256 => (∀ (w257 : World), u233 w257 → rd (World.cell? w257 { block := n0, off := (22 : Nat) : Addr }) fun v259 => v259 = v256 ∧ w257 = w257) ∧ isSl v256 fun o260 n261 n262 => (∀ (w263 : World), u233 w263 → Value.int IntKind.i64 (↑n261 : Int) = Value.int IntKind.i64 (↑n261 : Int) ∧ w263 = w263) ∧ (∀ (w265 : World), u233 w265 → Value.int IntKind.u64 (IntKind.wrap IntKind.u64 (↑n261 : Int)) = Value.int IntKind.u64 (IntKind.wrap IntKind.u64 (↑n261 : Int)) ∧ w265 = w265) ∧ callV Tryz.prog (84 : Nat) [Value.int IntKind.u64 (IntKind.wrap IntKind.u64 i242), Value.int IntKind.i64 (32 : Int)] (World.drew w10) fun v267 w268 => isStr v267 fun x269 => u233 w268 ∧ rd (orO (binV BinOp.add (Value.string x6) (Value.string x269)) none) fun v270 => (∀ (w271 : World), u233 w271 → rd (orO (binV BinOp.add (Value.string x6) (Value.string x269)) none) fun v273 => v273 = v270 ∧ w271 = w271) ∧ isStr v270 fun x274 => callV Tryz.prog (84 : Nat) [Value.int IntKind.u64 (IntKind.wrap IntKind.u64 i251), Value.int IntKind.i64 (32 : Int)] w268 fun v275 w276 => isStr v275 fun x277 => u233 w276 ∧ rd (orO (binV BinOp.add (Value.string x274) (Value.string x277)) none) fun v278 => (∀ (w279 : World), u233 w279 → rd (orO (binV BinOp.add (Value.string x274) (Value.string x277)) none) fun v281 => v281 = v278 ∧ w279 = w279) ∧ isStr v278 fun x282 => callV Tryz.prog (84 : Nat) [Value.int IntKind.u64 (IntKind.wrap IntKind.u64 (↑n261 : Int)), Value.int IntKind.i64 (10 : Int)] w276 fun v283 w284 => isStr v283 fun x285 => u233 w284 ∧ rd (orO (binV BinOp.add (Value.string x282) (Value.string x285)) none) fun v286 => (∀ (w287 : World), u233 w287 → rd (orO (binV BinOp.add (Value.string x282) (Value.string x285)) none) fun v289 => v289 = v286 ∧ w287 = w287) ∧ isStr v286 fun x290 => (∀ (w291 : World), u233 w291 → Value.string x290 = Value.string x290 ∧ w291 = w291) ∧ rd (World.cell? w284 { block := n0, off := (22 : Nat) : Addr }) fun v293 => isSl v293 fun o294 n295 n296 => runs Tryz.prog (convert (39 : Nat) (9 : Nat) (Value.slice o294 n295 n296)) w284 fun v297 w298 => isStr v297 fun x299 => callV Tryz.prog (77 : Nat) [Value.string x299] w298 fun v300 w301 => isStr v300 fun x302 => rd (orO (binV BinOp.add (Value.string x290) (Value.string x302)) none) fun v303 => isStr v303 fun x304 => R (Value.string x304) w301) (R (Value.string x6) w10)))))))) :
 callV Tryz.prog 85 [Value.agg #[Value.int IntKind.i64 a0, Value.int IntKind.u16 a1, Value.int IntKind.u16 a20, Value.int IntKind.u8 a21, Value.int IntKind.i8 a22, Value.int IntKind.i8 a23, Value.int IntKind.i64 a24, Value.int IntKind.u16 a3, Value.int IntKind.i64 a4, Value.int IntKind.i64 a5, Value.int IntKind.i64 a60, Value.int IntKind.i64 a61, Value.int IntKind.i64 a62, Value.int IntKind.i64 a7, Value.int IntKind.i64 a80, Value.int IntKind.i64 a81, Value.int IntKind.i64 a82, Value.int IntKind.i64 a90, Value.int IntKind.i64 a91, Value.int IntKind.i64 a92, Value.int IntKind.u32 a10, Value.int IntKind.u32 a11, Value.slice a12p a12n a12c]] w R :=
 vc_of hm ⟨fun _ => false, fun n => match n with | 6 => .take 0 (.take 1 (.take 2 (.take 3 (.take 6 (.take 7 (.take 8 (.one 4 (.take 5 (.one 9 (.take 10 (.take 11 (.done)))))))))))) | 7 => .take 0 (.take 1 (.take 2 (.take 3 (.take 6 (.take 7 (.take 8 (.take 11 (.take 12 (.take 13 (.take 14 (.one 4 (.take 5 (.one 9 (.take 10 (.one 15 (.take 16 (.take 17 (.done)))))))))))))))))) | 9 => .take 0 (.take 1 (.take 2 (.take 3 (.take 4 (.take 5 (.take 8 (.take 9 (.one 6 (.take 7 (.one 10 (.take 11 (.take 12 (.done))))))))))))) | 13 => .take 0 (.take 1 (.take 2 (.take 3 (.take 6 (.take 7 (.take 10 (.take 11 (.one 4 (.take 5 (.one 8 (.take 9 (.one 12 (.take 13 (.take 14 (.done))))))))))))))) | 19 => .take 0 (.take 1 (.take 2 (.take 3 (.take 6 (.take 7 (.take 8 (.take 11 (.take 12 (.take 13 (.take 14 (.one 4 (.take 5 (.one 9 (.take 10 (.one 15 (.take 16 (.take 17 (.done)))))))))))))))))) | _ => .done, fun _ => []⟩ Tryz.func85 ent85 (by kernel_rfl) h
end Go.Proofs.YtipikchkbmgloaaGreatDoor
namespace Go.Proofs.YtipikchkbmgloaaGreatDoor
set_option linter.unusedSimpArgs false
set_option linter.unusedVariables false
open Go Go.RowKit VC
variable {w : World}
theorem far29_c {a0 a1 a2 b c : Int} : callV Tryz.prog 44 [.agg #[.int .i64 a0, .int .i64 a1, .int .i64 a2], .int .i64 b, .int .i64 c] w fun v w' => v = .bool (decide ((b ≤ a0 ∧ a0 ≤ c) ∧ (b ≤ a1 ∧ a1 ≤ c) ∧ (b ≤ a2 ∧ a2 ≤ c))) ∧ Fm none' w w' := by
 refine vc44 a0 a1 a2 b c w _ ?_
 refine allocC_of fun w1 hb1 hs1 hf1 => ?_
 refine rd_of (v := .int .i64 a0) (cellOf hb1 rfl) ?_
 simp only [vq, eqV, nilV]
 refine rd_of (v := .int .i64 a1) (cellOf hb1 rfl) ?_
 simp only [vq, eqV, nilV]
 refine rd_of (v := .int .i64 a2) (cellOf hb1 rfl) ?_
 simp only [vq, eqV, nilV]
 refine min3 ?_
 simp only [vq, eqV, nilV]
 refine br_dec (fun h => ?_) (fun h => ⟨?_, hf1⟩)
 ·refine rd_of (v := .int .i64 a0) (cellOf hb1 rfl) ?_
  simp only [vq, eqV, nilV]
  refine rd_of (v := .int .i64 a1) (cellOf hb1 rfl) ?_
  simp only [vq, eqV, nilV]
  refine rd_of (v := .int .i64 a2) (cellOf hb1 rfl) ?_
  simp only [vq, eqV, nilV]
  refine max3 ?_
  simp only [vq, eqV, nilV]
  refine ⟨?_, hf1⟩
  congr 1
  rw [decide_eq_decide]
  omega
 ·congr 1
  symm
  rw [decide_eq_false_iff_not]
  omega
theorem BytesAt.none : BytesAt w (none : Option Addr) [] := fun j y h => by simp at h
set_option maxRecDepth 20000 in
set_option maxHeartbeats 4000000 in
theorem only28_c {m : Msg} {q : Option Addr} {c : Nat} (hby : BytesAt w q m.bytes) :
  callV Tryz.prog 43 [.agg (msgC m q c).toArray] w fun v w' => ∃ q' c', v = .agg (msgC (only m) q' c').toArray ∧ BytesAt w' q' (only m).bytes ∧ Fm none' w w' := by
 unfold msgC
 apply vc43
 refine allocC_of fun w1 hb1 hs1 hf1 => ?_
 change w1.heap[w.heap.size]? = some (.cells (msgC m q c).toArray 41 (0, 0)) at hb1
 refine allocC_of fun w3 hb3 hs3 hf3 => ?_
 change w3.heap[w1.heap.size]? = some (.cells (msgC (blank 0) none 0).toArray 41 (0, 0)) at hb3
 have h1 := hf3.keep hb1 id
 refine rd_of (v := .int .i64 m.kind) (cellOf h1 rfl) ?_
 simp only [vq, eqV, nilV]
 refine allocC_of fun w7 hb7 hs7 hf7 => ?_
 refine stC_all hb7 rfl (by intro v hv; exact msgC_one (m := blank m.kind) (q := none) (cq := 0) v hv) fun w8 hb8 hf8 => ?_
 obtain ⟨A, hA⟩ : ∃ A, A = w.heap.size := ⟨_, rfl⟩
 obtain ⟨O, hO⟩ : ∃ O, O = w1.heap.size := ⟨_, rfl⟩
 obtain ⟨X, hX⟩ : ∃ X, X = w3.heap.size := ⟨_, rfl⟩
 change w8.heap[w3.heap.size]? = some (.cells (msgC (blank m.kind) none 0).toArray 41 (0, 0)) at hb8
 rw [← hA] at h1 ⊢
 rw [← hO] at hb3 ⊢
 rw [← hX] at hb8 hf8 ⊢
 have hA8 : w8.heap[A]? = some (.cells (msgC m q c).toArray 41 (0, 0)) := hf8.keep (hf7.keep h1 id) (by omega)
 have hO8 : w8.heap[O]? = some (.cells (msgC (blank 0) none 0).toArray 41 (0, 0)) := hf8.keep (hf7.keep hb3 id) (by omega)
 have hF8 : Fm none' w w8 := ((hf1.trans hf3).trans hf7).trans' hf8 (by rintro i hi rfl; omega)
 refine ⟨fun _ w' => ∃ q' c', w'.heap[X]? = some (.cells (msgC (only m) q' c').toArray 41 (0, 0)) ∧ BytesAt w' q' (only m).bytes ∧ (∀ ad, q' = some ad → (only m).bytes ≠ [] → ad.block < w.heap.size) ∧ Fm (fun i => i = X) w8 w', ?_, ?_⟩
 ·have hby8 := hby.keep hF8 fun _ _ => id
  refine rd_of (v := .int .i64 m.kind) (cellOf hA8 rfl) ?_
  simp only [vq, eqV, nilV]
  have done : ∀ {w' : World} {x : Msg}, only m = x → x.bytes = [] → w'.heap[X]? = some (.cells (msgC x none 0).toArray 41 (0, 0)) → Fm (fun i => i = X) w8 w' → ∃ q' c', w'.heap[X]? = some (.cells (msgC (only m) q' c').toArray 41 (0, 0)) ∧ BytesAt w' q' (only m).bytes ∧ (∀ ad, q' = some ad → (only m).bytes ≠ [] → ad.block < w.heap.size) ∧ Fm (fun i => i = X) w8 w' := by
   rintro w' x rfl hb hx hf
   exact ⟨none, 0, hx, by rw [hb]; exact BytesAt.none, fun ad e => (by cases e), hf⟩
  refine br_dec (fun k2 => ?_) (fun k2 => ?_)
  ·refine rd_of (v := ([.int .u16 m.cq, .int .u8 m.cb, .int .i8 m.cdx, .int .i8 m.cdy, .int .i64 m.ct] : List Value)) (cells_row hA8 (by simp [msgC])) ?_
   refine rd_of (v := ()) rfl ?_
   refine stC_at hb8 (by simp [msgC]) (by intro v hv; simp at hv; rcases hv with rfl | rfl | rfl | rfl | rfl <;> rfl) fun w13 hb13 hf13 => ?_
   exact done (x := { blank m.kind with cq := m.cq, cb := m.cb, cdx := m.cdx, cdy := m.cdy, ct := m.ct }) (by unfold only; rw [if_pos k2]) rfl hb13 hf13
  refine br_dec (fun k3 => ?_) (fun k3 => ?_)
  ·refine rd_of (v := .int .u16 m.prov) (cellOf hA8 rfl) ?_
   simp only [vq, eqV, nilV]
   refine stC_one hb8 (by simp [msgC]) rfl fun w16 hb16 hf16 => ?_
   have hA16 := hf16.keep hA8 (by omega)
   refine rd_of (v := .int .i64 m.shot) (cellOf hA16 rfl) ?_
   simp only [vq, eqV, nilV]
   refine stC_one hb16 (by simp [msgC]) rfl fun w19 hb19 hf19 => ?_
   have hA19 := hf19.keep hA16 (by omega)
   refine rd_of (v := ([.int .i64 m.d0, .int .i64 m.d1, .int .i64 m.d2] : List Value)) (cells_row hA19 (by simp [msgC])) ?_
   refine rd_of (v := ()) rfl ?_
   refine stC_at hb19 (by simp [msgC]) (by intro v hv; simp at hv; rcases hv with rfl | rfl | rfl <;> rfl) fun w13 hb13 hf13 => ?_
   exact done (x := { blank m.kind with prov := m.prov, shot := m.shot, d0 := m.d0, d1 := m.d1, d2 := m.d2 }) (by unfold only; rw [if_neg k2, if_pos k3]) rfl hb13 ((hf16.trans hf19).trans hf13)
  refine br_dec (fun k5 => ?_) (fun k5 => ?_)
  ·refine rd_of (v := .int .i64 m.id) (cellOf hA8 rfl) ?_
   simp only [vq, eqV, nilV]
   refine stC_one hb8 (by simp [msgC]) rfl fun w16 hb16 hf16 => ?_
   exact done (x := { blank m.kind with id := m.id }) (by unfold only; rw [if_neg k2, if_neg k3, if_neg (by omega), if_neg (by omega), if_pos k5]) rfl hb16 hf16
  refine br_dec (fun k6 => ?_) (fun k6 => ?_)
  ·refine rd_of (v := .int .u16 m.seq) (cellOf hA8 rfl) ?_
   simp only [vq, eqV, nilV]
   refine stC_one hb8 (by simp [msgC]) rfl fun w16 hb16 hf16 => ?_
   have hA16 := hf16.keep hA8 (by omega)
   refine rd_of (v := ([.int .i64 m.p0, .int .i64 m.p1, .int .i64 m.p2] : List Value)) (cells_row hA16 (by simp [msgC])) ?_
   refine rd_of (v := ()) rfl ?_
   refine stC_at hb16 (by simp [msgC]) (by intro v hv; simp at hv; rcases hv with rfl | rfl | rfl <;> rfl) fun w19 hb19 hf19 => ?_
   have hA19 := hf19.keep hA16 (by omega)
   refine rd_of (v := ([.int .i64 m.v0, .int .i64 m.v1, .int .i64 m.v2] : List Value)) (cells_row hA19 (by simp [msgC])) ?_
   refine rd_of (v := ()) rfl ?_
   refine stC_at hb19 (by simp [msgC]) (by intro v hv; simp at hv; rcases hv with rfl | rfl | rfl <;> rfl) fun w13 hb13 hf13 => ?_
   exact done (x := { blank m.kind with seq := m.seq, p0 := m.p0, p1 := m.p1, p2 := m.p2, v0 := m.v0, v1 := m.v1, v2 := m.v2 }) (by unfold only; rw [if_neg k2, if_neg k3, if_pos k6]) rfl hb13 ((hf16.trans hf19).trans hf13)
  refine br_dec (fun k7 => ?_) (fun k7 => ?_)
  ·refine rd_of (v := .int .u16 m.prov) (cellOf hA8 rfl) ?_
   simp only [vq, eqV, nilV]
   refine stC_one hb8 (by simp [msgC]) rfl fun w16 hb16 hf16 => ?_
   have hA16 := hf16.keep hA8 (by omega)
   refine rd_of (v := .int .i64 m.id) (cellOf hA16 rfl) ?_
   simp only [vq, eqV, nilV]
   refine stC_one hb16 (by simp [msgC]) rfl fun w19 hb19 hf19 => ?_
   exact done (x := { blank m.kind with prov := m.prov, id := m.id }) (by unfold only; rw [if_neg k2, if_neg k3, if_neg k6, if_pos k7]) rfl hb19 (hf16.trans hf19)
  refine br_dec (fun k8 => ?_) (fun k8 => ?_)
  ·refine rd_of (v := .int .u16 m.prov) (cellOf hA8 rfl) ?_
   simp only [vq, eqV, nilV]
   refine stC_one hb8 (by simp [msgC]) rfl fun w16 hb16 hf16 => ?_
   have hA16 := hf16.keep hA8 (by omega)
   refine rd_of (v := .int .i64 m.why) (cellOf hA16 rfl) ?_
   simp only [vq, eqV, nilV]
   refine stC_one hb16 (by simp [msgC]) rfl fun w19 hb19 hf19 => ?_
   exact done (x := { blank m.kind with prov := m.prov, why := m.why }) (by unfold only; rw [if_neg k2, if_neg k3, if_neg k6, if_neg k7, if_neg k5, if_pos k8]) rfl hb19 (hf16.trans hf19)
  refine br_dec (fun k9 => ?_) (fun k9 => ?_)
  ·refine rd_of (v := .int .u32 m.tick) (cellOf hA8 rfl) ?_
   simp only [vq, eqV, nilV]
   refine stC_one hb8 (by simp [msgC]) rfl fun w16 hb16 hf16 => ?_
   have hA16 := hf16.keep hA8 (by omega)
   refine rd_of (v := .int .u32 m.bse) (cellOf hA16 rfl) ?_
   simp only [vq, eqV, nilV]
   refine stC_one hb16 (by simp [msgC]) rfl fun w19 hb19 hf19 => ?_
   have hA19 := hf19.keep hA16 (by omega)
   refine rd_of (v := .slice q m.bytes.length c) (cellOf hA19 rfl) ?_
   simp only [vq, eqV, nilV]
   refine stC_one hb19 (by simp [msgC]) rfl fun w22 hb22 hf22 => ?_
   have e : only m = { blank m.kind with tick := m.tick, bse := m.bse, bytes := m.bytes } := by unfold only; rw [if_neg k2, if_neg k3, if_neg k6, if_neg k7, if_neg k5, if_neg k8, if_pos k9]
   rw [e]
   have hf := (hf16.trans hf19).trans hf22
   exact ⟨q, c, hb22, hby8.keepN hf fun ad e hne => by have := hby.lt ad e hne; omega, hby.lt, hf⟩
  ·exact done (x := blank m.kind) (by unfold only; rw [if_neg k2, if_neg k3, if_neg k6, if_neg k7, if_neg k5, if_neg k8, if_neg k9]) rfl hb8 (Fm.refl _ _)
 ·rintro - w57 ⟨q', c', hx57, hby57, hlt57, hf57⟩
  refine rd_of (v := msgC (only m) q' c') (cells_all hx57 rfl) ?_
  refine rd_of (v := ()) rfl ?_
  have hO57 := hf57.keep hO8 (by omega)
  refine stC_all hO57 rfl msgC_one fun w60 hb60 hf60 => ?_
  refine rd_of (v := msgC (only m) q' c') (cells_all hb60 rfl) ?_
  refine ⟨q', c', rfl, hby57.keepN hf60 fun ad e hne => (by have := hlt57 ad e hne; omega), (hF8.trans' hf57 (by rintro i hi rfl; omega)).trans' hf60 (by rintro i hi rfl; omega)⟩
instance (m : Msg) : Decidable (fits m) := by unfold fits; infer_instance
theorem ref_iff {m : Msg} (hm : Mok m) (hl : m.bytes.length < 9223372036854775807) (ho : m = only m) (h1 : 1 ≤ m.kind) (h9 : m.kind ≤ 9) : rightM m = decide (fits m) := by
 rw [Bool.eq_iff_iff, right_iff hm hl, decide_eq_true_eq]
 exact ⟨fun h => h.2.1, fun h => ⟨⟨h1, h9⟩, h, ho⟩⟩
theorem only_bytes (m : Msg) : ∀ y ∈ (only m).bytes, y ∈ m.bytes := by
 unfold only
 repeat' split
 all_goals first | (intro y hy; exact hy) | (intro y hy; cases hy)
set_option maxRecDepth 20000 in
set_option maxHeartbeats 4000000 in
theorem right17_c {m : Msg} {q : Option Addr} {c : Nat} (hm : Mok m) (hl : m.bytes.length < 9223372036854775807) (hby : BytesAt w q m.bytes) :
  callV Tryz.prog 19 [.agg (msgC m q c).toArray] w fun v w' => v = .bool (rightM m) ∧ Fm none' w w' := by
 unfold msgC
 apply vc19
 refine allocC_of fun w1 hb1 hs1 hf1 => ?_
 change w1.heap[w.heap.size]? = some (.cells (msgC m q c).toArray 41 (0, 0)) at hb1
 obtain ⟨A, hA⟩ : ∃ A, A = w.heap.size := ⟨_, rfl⟩
 rw [← hA] at hb1 ⊢
 refine ⟨fun u w' => u 3 = .bool (decide (m = only m)) ∧ Fm none' w1 w', ?_, ?_⟩
 ·have hb1' : w1.drew.heap[A]? = some (.cells (msgC m q c).toArray 41 (0, 0)) := hb1
  refine ⟨fun w' => w'.heap[A]? = some (.cells (msgC m q c).toArray 41 (0, 0)), hb1', ?_⟩
  refine rd_of (v := msgC m q c) (cells_all hb1' rfl) ⟨fun w' hw => rd_of (cells_all hw rfl) ⟨rfl, rfl⟩, ?_⟩
  refine rd_of (v := msgC m q c) (cells_all hb1' rfl) ⟨fun w' hw => rd_of (cells_all hw rfl) ⟨rfl, rfl⟩, ?_⟩
  have hby1 := hby.keep (hf1.trans (Fm.drew w1)) fun _ _ => id
  refine (only28_c hby1).mono ?_
  rintro _ w13 ⟨q', c', rfl, hby13, hf13⟩
  refine ⟨hf13.keep hb1' id, ?_⟩
  refine (same27_c (hby1.keep hf13 fun _ _ => id) hby13 hm.bytes fun y hy => hm.bytes y (only_bytes m y hy)).mono ?_
  rintro _ w15 ⟨rfl, hf15⟩
  simp only [vq, eqV, nilV]
  exact ⟨hf15.keep (hf13.keep hb1' id) id, rfl, ((Fm.drew w1).trans hf13).trans hf15⟩
 rintro u w21 ⟨h3, hf21⟩
 change u 3 = _ at h3
 have h21 := hf21.keep hb1 id
 have hF21 := hf1.trans hf21
 have no : rightM m = false → Value.bool false = Value.bool (rightM m) ∧ Fm none' w w21 := fun h => ⟨by rw [h], hF21⟩
 simp only [h3, vq, eqV, nilV]
 refine ⟨fun _ w' => (m = only m ∧ 1 ≤ m.kind ∧ m.kind ≤ 9) ∧ w' = w21, ?_, ?_⟩
 ·refine br_ndec (fun h => no ?_) (fun ho => ?_)
  ·cases hr : rightM m with
   | false => rfl
   | true => exact absurd ((right_iff hm hl).1 hr).2.2 h
  refine rd_of (v := .int .i64 m.kind) (cellOf h21 rfl) ?_
  simp only [vq, eqV, nilV]
  refine br_dec (fun h => no ?_) (fun h1 => ?_)
  ·cases hr : rightM m with
   | false => rfl
   | true => have := ((right_iff hm hl).1 hr).1; omega
  refine rd_of (v := .int .i64 m.kind) (cellOf h21 rfl) ?_
  simp only [vq, eqV, nilV]
  refine br_dec (fun h => no ?_) (fun h9 => ⟨ho, by omega, by omega⟩)
  cases hr : rightM m with
  | false => rfl
  | true => have := ((right_iff hm hl).1 hr).1; omega
 rintro - w31 ⟨⟨ho, h1, h9⟩, e⟩
 obtain rfl : w21 = w31 := e.symm
 have hR := ref_iff hm hl ho h1 h9
 have fin : ∀ {t : Bool} {w' : World}, t = decide (fits m) → Fm none' w21 w' → Value.bool t = Value.bool (rightM m) ∧ Fm none' w w' := fun h hf => ⟨by rw [hR, h], hF21.trans hf⟩
 have r := Fm.refl none' w21
 refine rd_of (v := .int .i64 m.kind) (cellOf h21 rfl) ?_
 simp only [vq, eqV, nilV]
 have ff : ∀ {P : Prop}, (fits m ↔ P) → ¬ P → false = decide (fits m) := fun h hp => (decide_eq_false (fun hf => hp (h.1 hf))).symm
 have tt : ∀ {P Q : Prop} [Decidable Q], (fits m ↔ P) → (Q ↔ P) → decide Q = decide (fits m) := fun h hq => decide_eq_decide.2 (hq.trans h.symm)
 refine br_dec (fun k2 => ?_) (fun k2 => ?_)
 ·have hf : fits m ↔ m.cb < 4 ∧ 1 ≤ m.ct ∧ m.ct ≤ 8 := by unfold fits; rw [if_pos k2]
  refine rd_of (v := .int .u8 m.cb) (cellOf h21 rfl) ?_
  simp only [vq, eqV, nilV]
  refine br_dec (fun a1 => ?_) (fun a1 => fin (ff hf (by omega)) r)
  refine rd_of (v := .int .i64 m.ct) (cellOf h21 rfl) ?_
  simp only [vq, eqV, nilV]
  refine br_dec (fun a2 => ?_) (fun a2 => fin (ff hf (by omega)) r)
  refine rd_of (v := .int .i64 m.ct) (cellOf h21 rfl) ?_
  simp only [vq, eqV, nilV]
  exact fin (tt hf (by omega)) r
 refine br_dec (fun k3 => ?_) (fun k3 => ?_)
 ·have hf : fits m ↔ (0 ≤ m.shot ∧ m.shot ≤ 1) ∧ (-65536 ≤ m.d0 ∧ m.d0 ≤ 65536) ∧ (-65536 ≤ m.d1 ∧ m.d1 ≤ 65536) ∧ (-65536 ≤ m.d2 ∧ m.d2 ≤ 65536) := by unfold fits; rw [if_neg k2, if_pos k3]
  refine rd_of (v := .int .i64 m.shot) (cellOf h21 rfl) ?_
  simp only [vq, eqV, nilV]
  refine br_dec (fun a1 => ?_) (fun a1 => ?_)
  ·refine rd_of (v := ([.int .i64 m.d0, .int .i64 m.d1, .int .i64 m.d2] : List Value)) (cells_row h21 (by simp [msgC])) ?_
   refine far29_c.mono ?_
   rintro _ w45 ⟨rfl, hf45⟩
   simp only [vq, eqV, nilV]
   exact fin (tt hf (by omega)) hf45
  ·refine rd_of (v := .int .i64 m.shot) (cellOf h21 rfl) ?_
   simp only [vq, eqV, nilV]
   refine br_dec (fun a2 => ?_) (fun a2 => fin (ff hf (by omega)) r)
   refine rd_of (v := ([.int .i64 m.d0, .int .i64 m.d1, .int .i64 m.d2] : List Value)) (cells_row h21 (by simp [msgC])) ?_
   refine far29_c.mono ?_
   rintro _ w45 ⟨rfl, hf45⟩
   simp only [vq, eqV, nilV]
   exact fin (tt hf (by omega)) hf45
 refine br_dec (fun k5 => ?_) (fun k5 => ?_)
 ·have hf : fits m ↔ 1 ≤ m.id ∧ m.id < 2147483648 := by unfold fits; rw [if_neg k2, if_neg k3, if_neg (by omega), if_neg (by omega), if_pos k5]
  refine rd_of (v := .int .i64 m.id) (cellOf h21 rfl) ?_
  simp only [vq, eqV, nilV]
  refine br_dec (fun a1 => ?_) (fun a1 => fin (ff hf (by omega)) r)
  refine rd_of (v := .int .i64 m.id) (cellOf h21 rfl) ?_
  simp only [vq, eqV, nilV]
  exact fin (tt hf (by omega)) r
 refine br_dec (fun k7 => ?_) (fun k7 => ?_)
 ·have hf : fits m ↔ 1 ≤ m.id ∧ m.id < 2147483648 := by unfold fits; rw [if_neg k2, if_neg k3, if_neg (by omega), if_pos k7]
  refine rd_of (v := .int .i64 m.id) (cellOf h21 rfl) ?_
  simp only [vq, eqV, nilV]
  refine br_dec (fun a1 => ?_) (fun a1 => fin (ff hf (by omega)) r)
  refine rd_of (v := .int .i64 m.id) (cellOf h21 rfl) ?_
  simp only [vq, eqV, nilV]
  exact fin (tt hf (by omega)) r
 refine br_dec (fun k6 => ?_) (fun k6 => ?_)
 ·have hf : fits m ↔ ((-2147483648 ≤ m.p0 ∧ m.p0 < 2147483648) ∧ (-2147483648 ≤ m.p1 ∧ m.p1 < 2147483648) ∧ (-2147483648 ≤ m.p2 ∧ m.p2 < 2147483648)) ∧
    ((-2147483648 ≤ m.v0 ∧ m.v0 < 2147483648) ∧ (-2147483648 ≤ m.v1 ∧ m.v1 < 2147483648) ∧ (-2147483648 ≤ m.v2 ∧ m.v2 < 2147483648)) := by unfold fits; rw [if_neg k2, if_neg k3, if_pos k6]
  refine rd_of (v := ([.int .i64 m.p0, .int .i64 m.p1, .int .i64 m.p2] : List Value)) (cells_row h21 (by simp [msgC])) ?_
  refine far29_c.mono ?_
  rintro _ w45 ⟨rfl, hf45⟩
  simp only [vq, eqV, nilV]
  refine br_dec (fun a1 => ?_) (fun a1 => fin (ff hf (by omega)) hf45)
  refine rd_of (v := ([.int .i64 m.v0, .int .i64 m.v1, .int .i64 m.v2] : List Value)) (cells_row (hf45.keep h21 id) (by simp [msgC])) ?_
  refine far29_c.mono ?_
  rintro _ w46 ⟨rfl, hf46⟩
  simp only [vq, eqV, nilV]
  exact fin (tt hf (by omega)) (hf45.trans hf46)
 refine br_dec (fun k8 => ?_) (fun k8 => ?_)
 ·have hf : fits m ↔ 1 ≤ m.why ∧ m.why ≤ 10 := by unfold fits; rw [if_neg k2, if_neg k3, if_neg k6, if_neg k7, if_neg k5, if_pos k8]
  refine rd_of (v := .int .i64 m.why) (cellOf h21 rfl) ?_
  simp only [vq, eqV, nilV]
  refine br_dec (fun a1 => ?_) (fun a1 => fin (ff hf (by omega)) r)
  refine rd_of (v := .int .i64 m.why) (cellOf h21 rfl) ?_
  simp only [vq, eqV, nilV]
  exact fin (tt hf (by omega)) r
 refine br_dec (fun k9 => ?_) (fun k9 => ?_)
 ·have hf : fits m ↔ m.bytes.length ≤ 1023 := by unfold fits; rw [if_neg k2, if_neg k3, if_neg k6, if_neg k7, if_neg k5, if_neg k8, if_pos k9]
  refine rd_of (v := .slice q m.bytes.length c) (cellOf h21 rfl) ?_
  simp only [vq, eqV, nilV]
  exact fin (tt hf (by omega)) r
 ·have hf : fits m := by unfold fits; rw [if_neg k2, if_neg k3, if_neg k6, if_neg k7, if_neg k5, if_neg k8, if_neg k9]; trivial
  exact fin (decide_eq_true hf).symm r
end Go.Proofs.YtipikchkbmgloaaGreatDoor
namespace Go.Proofs.YtipikchkbmgloaaGreatDoor
set_option linter.unusedSimpArgs false
set_option linter.unusedVariables false
open Go Go.RowKit VC
variable {w : World}
theorem textX (x : Int) (k : Nat) (hk : k ≤ 64) : callV Tryz.prog 84 [.int .u64 (IntKind.u64.wrap x), .int .i64 k] w fun v w' => v = .string (txt (bitsOf (IntKind.u64.wrap x) k)) ∧ Fm none' w w' := by
 obtain ⟨m, hm, hlt⟩ := u64_nat x
 rw [hm]
 exact text47_c m k hlt hk
theorem cat3 {S : World → Prop} {K : ByteArray → Prop} {xs ys : List Int} (h : xs.length + ys.length ≤ 1000000000) (k : K (txt (xs ++ ys))) :
  rd (orO (binV .add (.string (txt xs)) (.string (txt ys))) none) fun v => (∀ w' : World, S w' → rd (orO (binV .add (.string (txt xs)) (.string (txt ys))) none) fun v' => v' = v) ∧ isStr v K :=
 cat_txt h ⟨fun _ _ => cat_txt h rfl, k⟩
theorem cat1 {K : ByteArray → Prop} {xs ys : List Int} (h : xs.length + ys.length ≤ 1000000000) (k : K (txt (xs ++ ys))) :
  rd (orO (binV .add (.string (txt xs)) (.string (txt ys))) none) fun v => isStr v K := cat_txt h k
set_option maxRecDepth 20000 in
theorem vec62_c {a0 a1 a2 : Int} {k : Nat} (hk : k ≤ 64) : callV Tryz.prog 97 [.agg #[.int .i64 a0, .int .i64 a1, .int .i64 a2], .int .i64 k] w fun v w' => v = .string (txt (vecB [a0, a1, a2] k)) ∧ Fm none' w w' := by
 refine vc97 a0 a1 a2 k w _ ?_
 refine allocC_of fun w1 hb1 hs1 hf1 => ?_
 have hb : w1.drew.heap[w.heap.size]? = some (.cells #[.int .i64 a0, .int .i64 a1, .int .i64 a2] 37 (0, 0)) := hb1
 refine ⟨fun w' => w'.heap[w.heap.size]? = some (.cells #[.int .i64 a0, .int .i64 a1, .int .i64 a2] 37 (0, 0)), hb, ?_⟩
 simp only [vq, eqV, nilV]
 refine rd_of (v := .int .i64 a0) (cellOf hb rfl) ⟨fun w' hw => rd_of (cellOf hw rfl) rfl, ?_⟩
 simp only [vq, eqV, nilV]
 refine rd_of (v := .int .i64 a1) (cellOf hb rfl) ⟨fun w' hw => rd_of (cellOf hw rfl) rfl, ?_⟩
 simp only [vq, eqV, nilV]
 refine rd_of (v := .int .i64 a2) (cellOf hb rfl) ⟨fun w' hw => rd_of (cellOf hw rfl) rfl, ?_⟩
 simp only [vq, eqV, nilV]
 refine (textX a0 k hk).mono ?_
 rintro _ w37 ⟨rfl, hf37⟩
 simp only [vq, eqV, nilV]
 refine ⟨hf37.keep hb id, (textX a1 k hk).mono ?_⟩
 rintro _ w40 ⟨rfl, hf40⟩
 simp only [vq, eqV, nilV]
 refine ⟨hf40.keep (hf37.keep hb id) id, cat3 (by rw [bitsOf_length, bitsOf_length]; omega) ?_⟩
 refine (textX a2 k hk).mono ?_
 rintro _ w48 ⟨rfl, hf48⟩
 simp only [vq, eqV, nilV]
 refine ⟨hf48.keep (hf40.keep (hf37.keep hb id) id) id, cat3 (by rw [List.length_append, bitsOf_length, bitsOf_length, bitsOf_length]; omega) ?_⟩
 refine ⟨?_, (((hf1.trans (Fm.drew w1)).trans hf37).trans hf40).trans hf48⟩
 simp only [vecB, vecBits, List.flatMap_cons, List.flatMap_nil, List.append_nil, List.append_assoc]
set_option maxRecDepth 20000 in
theorem of33_c {ys : List Int} (hy : ∀ y ∈ ys, 0 ≤ y ∧ y < 256) (hl : ys.length ≤ 100000) : callV Tryz.prog 77 [.string (strOfNums ys)] w fun v w' => v = .string (txt (byteBits ys)) ∧ Fm none' w w' := by
 refine vc77 _ w _ ?_
 rw [strOfNums_size]
 refine ⟨fun u w' => ∃ j : Nat, j ≤ ys.length ∧ u 3 = .string (txt (byteBits (ys.take j))) ∧ u 4 = .int .i64 j ∧ Fm none' w w', fun u _ => ys.length - (intOf (u 4)).toNat, ⟨0, by omega, rfl, rfl, Fm.refl _ _⟩, ?_⟩
 rintro u w3 ⟨j, hj, h3, h4, hF⟩
 change u 3 = _ at h3
 change u 4 = _ at h4
 simp only [h3, h4, vq, eqV, nilV]
 refine br_dec (fun hjl => ?_) (fun hjl => ?_)
 ·obtain ⟨y, hyj⟩ : ∃ y, ys[j]? = some y := ⟨ys[j]'(by omega), by simp⟩
  refine index_str (by rw [row9]) hy hyj ?_
  simp only [vq, eqV, nilV]
  refine (textX y 8 (by omega)).mono ?_
  rintro _ w12 ⟨rfl, hf12⟩
  simp only [vq, eqV, nilV]
  have hlt : (ys.take j).length ≤ ys.length := by rw [List.length_take]; omega
  refine cat1 (by rw [byteBits_length, bitsOf_length]; omega) ?_
  rw [w64 (by omega)]
  refine ⟨⟨j + 1, by omega, ?_, rfl, hF.trans hf12⟩, ?_⟩
  ·show Value.string _ = _
   rw [List.take_add_one, hyj, byteBits_app]
   simp [byteBits]
  ·show ys.length - ((j : Int) + 1).toNat < ys.length - (j : Int).toNat; omega
 ·have : j = ys.length := by omega
  subst this
  rw [List.take_length]
  exact ⟨rfl, hF⟩
set_option maxRecDepth 20000 in
set_option maxHeartbeats 4000000 in
theorem bits48_c {m : Msg} {q : Option Addr} {c : Nat} (hm : Mok m) (hl : m.bytes.length ≤ 2000) (hby : BytesAt w q m.bytes) (h1 : 1 ≤ m.kind) (h9 : m.kind ≤ 9) :
  callV Tryz.prog 85 [.agg (msgC m q c).toArray] w fun v w' => v = .string (txt (oneBits m)) ∧ Fm none' w w' := by
 unfold msgC
 apply vc85
 refine allocC_of fun w1 hb1 hs1 hf1 => ?_
 change w1.heap[w.heap.size]? = some (.cells (msgC m q c).toArray 41 (0, 0)) at hb1
 obtain ⟨A, hA⟩ : ∃ A, A = w.heap.size := ⟨_, rfl⟩
 rw [← hA] at hb1 ⊢
 refine rd_of (v := .int .i64 m.kind) (cellOf hb1 rfl) ?_
 simp only [vq, eqV, nilV]
 refine (textX m.kind 4 (by omega)).mono ?_
 rintro _ w5 ⟨rfl, hf5⟩
 simp only [vq, eqV, nilV]
 have hb5 := hf5.keep hb1 id
 refine rd_of (v := .int .u16 m.prov) (cellOf hb5 rfl) ?_
 simp only [vq, eqV, nilV]
 refine (textX m.prov 16 (by omega)).mono ?_
 rintro _ w10 ⟨rfl, hf10⟩
 simp only [vq, eqV, nilV]
 have hb10 := hf10.keep hb5 id
 have hF10 := (hf1.trans hf5).trans hf10
 refine rd_of (v := .int .i64 m.kind) (cellOf hb10 rfl) ?_
 simp only [vq, eqV, nilV]
 have fin : ∀ {bs : List Int} {w' : World}, fieldBits m = bs → Fm none' w10 w' → ∀ {x : List Int}, x = bitsOf (IntKind.u64.wrap m.kind) 4 ++ bs → Value.string (txt x) = .string (txt (oneBits m)) ∧ Fm none' w w' := by
  rintro bs w' rfl hf x rfl
  exact ⟨rfl, hF10.trans hf⟩
 have hd := Fm.drew w10
 have hbd : w10.drew.heap[A]? = some (.cells (msgC m q c).toArray 41 (0, 0)) := hb10
 have ln : ∀ x k, (bitsOf x k).length = k := bitsOf_length
 have lv : ∀ x y z k, (vecB [x, y, z] k).length = 3 * k := fun x y z k => by
  simp only [vecB, vecBits, List.flatMap_cons, List.flatMap_nil, List.length_append, bitsOf_length, List.length_nil]; omega
 refine br_dec (fun k2 => ?_) (fun k2 => ?_)
 ·refine rd_of (v := ([.int .u16 m.cq, .int .u8 m.cb, .int .i8 m.cdx, .int .i8 m.cdy, .int .i64 m.ct] : List Value)) (cells_row hb10 (by simp [msgC])) ?_
  refine allocC_of fun w16 hb16 hs16 hf16 => ?_
  refine rd_of (v := ()) rfl ?_
  refine stC_all hb16 rfl (by intro v hv; simp at hv; rcases hv with rfl | rfl | rfl | rfl | rfl <;> rfl) fun w17 hb17 hf17 => ?_
  obtain ⟨C, hC⟩ : ∃ C, C = w10.heap.size := ⟨_, rfl⟩
  rw [← hC] at hb17 hf17 ⊢
  have hF17 : Fm none' w10 w17 := hf16.trans' hf17 (by rintro i hi rfl; omega)
  have hbd2 : w17.drew.heap[C]? = some (.cells #[.int .u16 m.cq, .int .u8 m.cb, .int .i8 m.cdx, .int .i8 m.cdy, .int .i64 m.ct] 35 (0, 0)) := hb17
  refine ⟨fun w' => w'.heap[C]? = some (.cells #[.int .u16 m.cq, .int .u8 m.cb, .int .i8 m.cdx, .int .i8 m.cdy, .int .i64 m.ct] 35 (0, 0)), hbd2, ?_⟩
  simp only [vq, eqV, nilV]
  refine rd_of (v := .int .u16 m.cq) (cellOf hbd2 rfl) ⟨fun w' hw => rd_of (cellOf hw rfl) rfl, ?_⟩
  simp only [vq, eqV, nilV]
  refine rd_of (v := .int .u8 m.cb) (cellOf hbd2 rfl) ⟨fun w' hw => rd_of (cellOf hw rfl) rfl, ?_⟩
  simp only [vq, eqV, nilV]
  refine (textX m.cq 16 (by omega)).mono ?_
  rintro _ w40 ⟨rfl, hf40⟩
  simp only [vq, eqV, nilV]
  refine ⟨hf40.keep hbd2 id, cat3 (by simp only [List.length_append, ln]; omega) ?_⟩
  refine (textX m.cb 2 (by omega)).mono ?_
  rintro _ w48 ⟨rfl, hf48⟩
  simp only [vq, eqV, nilV]
  have hb48 := hf48.keep (hf40.keep hbd2 id) id
  refine ⟨hb48, cat3 (by simp only [List.length_append, ln]; omega) ?_⟩
  have hb48' : w48.drew.heap[C]? = some (.cells #[.int .u16 m.cq, .int .u8 m.cb, .int .i8 m.cdx, .int .i8 m.cdy, .int .i64 m.ct] 35 (0, 0)) := hb48
  refine ⟨fun w' => w'.heap[C]? = some (.cells #[.int .u16 m.cq, .int .u8 m.cb, .int .i8 m.cdx, .int .i8 m.cdy, .int .i64 m.ct] 35 (0, 0)), hb48', ?_⟩
  simp only [vq, eqV, nilV]
  refine rd_of (v := .int .i8 m.cdx) (cellOf hb48' rfl) ⟨fun w' hw => rd_of (cellOf hw rfl) rfl, ?_⟩
  simp only [vq, eqV, nilV]
  refine rd_of (v := .int .i8 m.cdy) (cellOf hb48' rfl) ⟨fun w' hw => rd_of (cellOf hw rfl) rfl, ?_⟩
  simp only [vq, eqV, nilV]
  refine rd_of (v := .int .i64 m.ct) (cellOf hb48' rfl) ⟨fun w' hw => rd_of (cellOf hw rfl) rfl, ?_⟩
  simp only [vq, eqV, nilV]
  refine (textX m.cdx 8 (by omega)).mono ?_
  rintro _ w90 ⟨rfl, hf90⟩
  simp only [vq, eqV, nilV]
  have hb90 := hf90.keep hb48' id
  refine ⟨hb90, cat3 (by simp only [List.length_append, ln]; omega) ?_⟩
  refine (textX m.cdy 8 (by omega)).mono ?_
  rintro _ w98 ⟨rfl, hf98⟩
  simp only [vq, eqV, nilV]
  have hb98 := hf98.keep hb90 id
  refine ⟨hb98, cat3 (by simp only [List.length_append, ln]; omega) ?_⟩
  refine (textX (IntKind.i64.wrap (m.ct - 1)) 3 (by omega)).mono ?_
  rintro _ w106 ⟨rfl, hf106⟩
  simp only [vq, eqV, nilV]
  refine ⟨hf106.keep hb98 id, cat3 (by simp only [List.length_append, ln]; omega) ?_⟩
  exact fin (bs := cmdBits m.cq m.cb m.cdx m.cdy m.ct) (by unfold fieldBits; rw [if_pos k2]) (((((((hF17.trans (Fm.drew w17)).trans hf40).trans hf48).trans (Fm.drew w48)).trans hf90).trans hf98).trans hf106) (by simp only [cmdBits, numBits, sgnBits, List.append_assoc])
 refine br_dec (fun k3 => ?_) (fun k3 => ?_)
 ·refine ⟨fun w' => w'.heap[A]? = some (.cells (msgC m q c).toArray 41 (0, 0)), hbd, ?_⟩
  simp only [vq, eqV, nilV]
  refine cat_txt (by rw [ln, ln]; omega) ⟨fun _ _ => cat_txt (by rw [ln, ln]; omega) rfl, ?_⟩
  simp only [vq, eqV, nilV]
  refine rd_of (v := .int .i64 m.shot) (cellOf hbd rfl) ⟨fun w' hw => rd_of (cellOf hw rfl) rfl, ?_⟩
  simp only [vq, eqV, nilV]
  refine rd_of (v := ([.int .i64 m.d0, .int .i64 m.d1, .int .i64 m.d2] : List Value)) (cells_row hbd (by simp [msgC])) ⟨fun w' hw => rd_of (cells_row hw (by simp [msgC])) rfl, ?_⟩
  refine (textX m.shot 1 (by omega)).mono ?_
  rintro _ w141 ⟨rfl, hf141⟩
  simp only [vq, eqV, nilV]
  refine ⟨hf141.keep hbd id, cat3 (by simp only [List.length_append, ln]; omega) ?_⟩
  refine (vec62_c (k := 18) (by omega)).mono ?_
  rintro _ w148 ⟨rfl, hf148⟩
  simp only [vq, eqV, nilV]
  refine ⟨hf148.keep (hf141.keep hbd id) id, cat3 (by simp only [List.length_append, ln, lv]; omega) ?_⟩
  exact fin (bs := numBits m.prov 16 ++ (numBits m.shot 1 ++ vecB [m.d0, m.d1, m.d2] 18)) (by unfold fieldBits; rw [if_neg k2, if_pos k3]) ((hd.trans hf141).trans hf148) (by simp only [numBits, List.append_assoc])
 refine br_dec (fun k5 => ?_) (fun k5 => ?_)
 ·refine rd_of (v := .int .i64 m.id) (cellOf hb10 rfl) ?_
  simp only [vq, eqV, nilV]
  refine (textX m.id 31 (by omega)).mono ?_
  rintro _ w141 ⟨rfl, hf141⟩
  simp only [vq, eqV, nilV]
  refine cat1 (by rw [ln, ln]; omega) ?_
  exact fin (bs := numBits m.id 31) (by unfold fieldBits; rw [if_neg k2, if_neg k3, if_neg (by omega), if_neg (by omega), if_pos k5]) hf141 rfl
 refine br_dec (fun k6 => ?_) (fun k6 => ?_)
 ·refine ⟨fun w' => w'.heap[A]? = some (.cells (msgC m q c).toArray 41 (0, 0)), hbd, ?_⟩
  simp only [vq, eqV, nilV]
  refine rd_of (v := .int .u16 m.seq) (cellOf hbd rfl) ⟨fun w' hw => rd_of (cellOf hw rfl) rfl, ?_⟩
  simp only [vq, eqV, nilV]
  refine rd_of (v := ([.int .i64 m.p0, .int .i64 m.p1, .int .i64 m.p2] : List Value)) (cells_row hbd (by simp [msgC])) ⟨fun w' hw => rd_of (cells_row hw (by simp [msgC])) rfl, ?_⟩
  refine rd_of (v := ([.int .i64 m.v0, .int .i64 m.v1, .int .i64 m.v2] : List Value)) (cells_row hbd (by simp [msgC])) ⟨fun w' hw => rd_of (cells_row hw (by simp [msgC])) rfl, ?_⟩
  refine (textX m.seq 16 (by omega)).mono ?_
  rintro _ w141 ⟨rfl, hf141⟩
  simp only [vq, eqV, nilV]
  refine ⟨hf141.keep hbd id, cat3 (by simp only [List.length_append, ln]; omega) ?_⟩
  refine (vec62_c (k := 32) (by omega)).mono ?_
  rintro _ w148 ⟨rfl, hf148⟩
  simp only [vq, eqV, nilV]
  refine ⟨hf148.keep (hf141.keep hbd id) id, cat3 (by simp only [List.length_append, ln, lv]; omega) ?_⟩
  refine (vec62_c (k := 32) (by omega)).mono ?_
  rintro _ w149 ⟨rfl, hf149⟩
  simp only [vq, eqV, nilV]
  refine ⟨hf149.keep (hf148.keep (hf141.keep hbd id) id) id, cat3 (by simp only [List.length_append, ln, lv]; omega) ?_⟩
  exact fin (bs := numBits m.seq 16 ++ (vecB [m.p0, m.p1, m.p2] 32 ++ vecB [m.v0, m.v1, m.v2] 32)) (by unfold fieldBits; rw [if_neg k2, if_neg k3, if_pos k6]) (((hd.trans hf141).trans hf148).trans hf149) (by simp only [numBits, List.append_assoc])
 refine br_dec (fun k7 => ?_) (fun k7 => ?_)
 ·refine cat1 (by simp only [ln]; omega) ?_
  refine rd_of (v := .int .i64 m.id) (cellOf hb10 rfl) ?_
  simp only [vq, eqV, nilV]
  refine (textX m.id 31 (by omega)).mono ?_
  rintro _ w141 ⟨rfl, hf141⟩
  simp only [vq, eqV, nilV]
  refine cat1 (by simp only [List.length_append, ln]; omega) ?_
  exact fin (bs := numBits m.prov 16 ++ numBits m.id 31) (by unfold fieldBits; rw [if_neg k2, if_neg k3, if_neg k6, if_pos k7]) hf141 (by simp only [numBits, List.append_assoc])
 refine br_dec (fun k8 => ?_) (fun k8 => ?_)
 ·refine cat1 (by simp only [ln]; omega) ?_
  refine rd_of (v := .int .i64 m.why) (cellOf hb10 rfl) ?_
  simp only [vq, eqV, nilV]
  refine (textX m.why 4 (by omega)).mono ?_
  rintro _ w141 ⟨rfl, hf141⟩
  simp only [vq, eqV, nilV]
  refine cat1 (by simp only [List.length_append, ln]; omega) ?_
  exact fin (bs := numBits m.prov 16 ++ numBits m.why 4) (by unfold fieldBits; rw [if_neg k2, if_neg k3, if_neg k6, if_neg k7, if_neg k5, if_pos k8]) hf141 (by simp only [numBits, List.append_assoc])
 refine br_dec (fun k9 => ?_) (fun k9 => ?_)
 ·refine ⟨fun w' => w'.heap[A]? = some (.cells (msgC m q c).toArray 41 (0, 0)), hbd, ?_⟩
  simp only [vq, eqV, nilV]
  refine rd_of (v := .int .u32 m.tick) (cellOf hbd rfl) ⟨fun w' hw => rd_of (cellOf hw rfl) rfl, ?_⟩
  simp only [vq, eqV, nilV]
  refine rd_of (v := .int .u32 m.bse) (cellOf hbd rfl) ⟨fun w' hw => rd_of (cellOf hw rfl) rfl, ?_⟩
  simp only [vq, eqV, nilV]
  refine rd_of (v := .slice q m.bytes.length c) (cellOf hbd rfl) ⟨fun w' hw => rd_of (cellOf hw rfl) rfl, ?_⟩
  simp only [vq, eqV, nilV]
  refine (textX m.tick 32 (by omega)).mono ?_
  rintro _ w141 ⟨rfl, hf141⟩
  simp only [vq, eqV, nilV]
  have hb141 := hf141.keep hbd id
  refine ⟨hb141, cat3 (by simp only [List.length_append, ln]; omega) ?_⟩
  refine (textX m.bse 32 (by omega)).mono ?_
  rintro _ w148 ⟨rfl, hf148⟩
  simp only [vq, eqV, nilV]
  have hb148 := hf148.keep hb141 id
  refine ⟨hb148, cat3 (by simp only [List.length_append, ln]; omega) ?_⟩
  refine (textX m.bytes.length 10 (by omega)).mono ?_
  rintro _ w284 ⟨rfl, hf284⟩
  simp only [vq, eqV, nilV]
  have hb284 := hf284.keep hb148 id
  refine ⟨hb284, cat3 (by simp only [List.length_append, ln]; omega) ?_⟩
  refine rd_of (v := .slice q m.bytes.length c) (cellOf hb284 rfl) ?_
  simp only [vq, eqV, nilV]
  have hF284 := ((hd.trans hf141).trans hf148).trans hf284
  refine conv_bytes (by rw [row39]) (by rw [row5]) (by rw [row9]) rfl (hby.keep (hF10.trans hF284) fun _ _ => id) ?_
  simp only [vq, eqV, nilV]
  refine (of33_c hm.bytes (by omega)).mono ?_
  rintro _ w301 ⟨rfl, hf301⟩
  simp only [vq, eqV, nilV]
  refine cat1 (by simp only [List.length_append, ln, byteBits_length]; omega) ?_
  exact fin (bs := numBits m.tick 32 ++ (numBits m.bse 32 ++ (numBits m.bytes.length 10 ++ byteBits m.bytes))) (by unfold fieldBits; rw [if_neg k2, if_neg k3, if_neg k6, if_neg k7, if_neg k5, if_neg k8, if_pos k9]) (hF284.trans hf301) (by simp only [numBits, List.append_assoc])
 ·exact fin (bs := []) (by unfold fieldBits; rw [if_neg k2, if_neg k3, if_neg k6, if_neg k7, if_neg k5, if_neg k8, if_neg k9]) (Fm.refl _ _) (by simp)
end Go.Proofs.YtipikchkbmgloaaGreatDoor
namespace Go.Proofs.YtipikchkbmgloaaGreatDoor
set_option linter.unusedSimpArgs false
set_option linter.unusedVariables false
open Go Go.RowKit VC
variable {w : World}
theorem slice_txt {bs : List Int} {l h : Nat} {kl kh : IntKind} {K : Value → World → Prop} (hl : l ≤ h) (hh : h ≤ bs.length) (k : K (.string (txt ((bs.take h).drop l))) w) :
  runs Tryz.prog (Instr.sliceAt 9 (.string (txt bs)) (some (.int kl (l : Int))) (some (.int kh (h : Int))) none) w K := by
 refine slice_str (by rw [row9]) hl (by rw [List.length_map]; exact hh) ?_
 rw [← List.map_take, ← List.map_drop]
 exact k
theorem chunk {ys : List Int} (hy : ∀ y ∈ ys, 0 ≤ y ∧ y < 256) {i : Nat} {y : Int} (h : ys[i]? = some y) : val (((byteBits ys).take (8 * i + 8)).drop (8 * i)) = y := by
 have hyy := hy y (List.mem_of_getElem? h)
 obtain ⟨m, rfl⟩ : ∃ m : Nat, y = m := ⟨y.toNat, by omega⟩
 have e : ((byteBits ys).take (8 * i + 8)).drop (8 * i) = bitsOf (m : Int) 8 := by
  have hil := (List.getElem?_eq_some_iff.1 h).1
  have hs : ys = ys.take i ++ (m : Int) :: ys.drop (i + 1) := by
   have h1 := (List.getElem?_eq_some_iff.1 h).2
   rw [← h1, ← List.drop_eq_getElem_cons hil, List.take_append_drop]
  have hl : (byteBits (ys.take i)).length = 8 * i := by rw [byteBits_length, List.length_take]; omega
  rw [hs, byteBits_app]
  rw [show byteBits ((m : Int) :: ys.drop (i + 1)) = bitsOf (IntKind.u64.wrap (m : Int)) 8 ++ byteBits (ys.drop (i + 1)) from rfl, u64n (by omega)]
  rw [List.take_append, hl, List.drop_append, List.take_of_length_le (by omega), List.drop_of_length_le (by omega), hl]
  rw [show 8 * i + 8 - 8 * i = 8 by omega, Nat.sub_self, List.drop_zero, List.nil_append, List.take_append_of_le_length (by rw [bitsOf_length]; omega), List.take_of_length_le (by rw [bitsOf_length]; omega)]
 rw [e, val_bitsOf m 8 (by omega)]
 omega
set_option maxRecDepth 20000 in
set_option maxHeartbeats 1000000 in
theorem bytes49_c {bs : List Int} (hb : ∀ b ∈ bs, Bit b) (hl : bs.length ≤ 100000000) : callV Tryz.prog 86 [.string (txt bs)] w fun v w' => v = .string (strOfNums (pack bs)) ∧ Fm none' w w' := by
 have hpl := pack_length bs
 have hbp := byteBits_pack bs hb
 refine vc86 _ w _ ?_
 refine ⟨fun u w' => ∃ z : Nat, bs.length + z ≤ 8 * (pack bs).length ∧ u 0 = .string (txt (bs ++ List.replicate z 0)) ∧ Fm none' w w', fun u _ => match u 0 with | .string s => 8 * (pack bs).length - s.size | _ => 0, ⟨0, by omega, by simp [alist], Fm.refl _ _⟩, ?_⟩
 rintro u w3 ⟨z, hz, h0, hF⟩
 change u 0 = _ at h0
 simp only [h0, vq, eqV, nilV, txt_size, List.length_append, List.length_replicate]
 have htm : Int.tmod ((bs.length + z : Nat) : Int) 8 = (((bs.length + z) % 8 : Nat) : Int) := by rw [Int.tmod_eq_emod_of_nonneg (Int.natCast_nonneg _)]; norm_cast
 rw [htm]
 refine br_ndec (fun h8 => ?_) (fun h8 => ?_)
 ·refine cat_txt (ys := [0]) (by simp; omega) ?_
  simp only [vq, eqV, nilV]
  refine ⟨⟨z + 1, by omega, ?_, hF⟩, ?_⟩
  ·show Value.string _ = _
   rw [List.append_assoc]
   congr 3
   rw [List.replicate_succ']
  ·show 8 * (pack bs).length - (txt _).size < 8 * (pack bs).length - (txt _).size
   rw [txt_size, txt_size]; simp; omega
 ·have hz8 : bs.length + z = 8 * (pack bs).length := by omega
  have hps : bs ++ List.replicate z 0 = byteBits (pack bs) := by
   rw [hbp]; congr 2; omega
  rw [hps]
  refine ⟨fun u' w' => ∃ i : Nat, i ≤ (pack bs).length ∧ u' 3 = .string (strOfNums ((pack bs).take i)) ∧ u' 4 = .int .i64 ((8 * i : Nat) : Int) ∧ Fm none' w w', fun u' _ => 8 * (pack bs).length - (intOf (u' 4)).toNat, ⟨0, by omega, rfl, rfl, hF⟩, ?_⟩
  rintro u' w12 ⟨i, hi, h3, h4, hF12⟩
  change u' 3 = _ at h3
  change u' 4 = _ at h4
  simp only [h3, h4, vq, eqV, nilV]
  rw [show ((bs.length + z : Nat) : Int) = ((8 * (pack bs).length : Nat) : Int) by rw [hz8]]
  refine br_dec (fun hil => ?_) (fun hil => ?_)
  ·obtain ⟨y, hy⟩ : ∃ y, (pack bs)[i]? = some y := ⟨(pack bs)[i]'(by omega), by simp⟩
   have hyr := pack_range bs
   have hyy := hyr y (List.mem_of_getElem? hy)
   have hch := chunk hyr hy
   rw [w64 (by omega), show (((8 * i : Nat) : Int) + 8) = ((8 * i + 8 : Nat) : Int) by push_cast; rfl]
   refine slice_txt (by omega) (by rw [byteBits_length]; omega) ?_
   simp only [vq, eqV, nilV]
   refine (number55_c (fun b hb' => byteBits_bit _ b (List.mem_of_mem_take (List.mem_of_mem_drop hb'))) (by rw [List.length_drop, List.length_take]; omega)).mono ?_
   rw [hch]
   rintro _ w24 ⟨rfl, hf24⟩
   simp only [vq, eqV, nilV]
   have hw8 : IntKind.u8.wrap y = y := by simp only [IntKind.wrap, IntKind.bits, IntKind.signed]; simp; omega
   rw [hw8]
   refine build_1 (by rw [row39]) row5 rfl rfl fun w27 hb27 hs27 hf27 => ?_
   simp only [vq, eqV, nilV]
   refine conv_bytes (ys := [y]) (by rw [row39]) (by rw [row5]) (by rw [row9]) rfl (fun j y' hj => ?_) ?_
   ·obtain rfl : j = 0 := by have := (List.getElem?_eq_some_iff.1 hj).1; simp at this; omega
    simp at hj; subst hj
    exact ⟨_, rfl, cellOf hb27 rfl⟩
   simp only [vq, eqV, nilV]
   rw [bv_cat (by rw [strOfNums_size, strOfNums_size, List.length_take]; simp; omega), strOfNums_app]
   simp only [vq, eqV, nilV]
   refine ⟨⟨i + 1, by omega, ?_, by show Value.int _ _ = _; congr 1, (hF12.trans hf24).trans hf27⟩, ?_⟩
   ·show Value.string _ = _
    rw [List.take_add_one, hy]; rfl
   ·show 8 * (pack bs).length - (((8 * i + 8 : Nat) : Int)).toNat < 8 * (pack bs).length - ((8 * i : Nat) : Int).toNat; omega
  ·have : i = (pack bs).length := by omega
   subst this
   rw [List.take_length]
   exact ⟨rfl, hF12⟩
theorem oneBits_bit (m : Msg) : ∀ b ∈ oneBits m, Bit b := app_bit (bitsOf_bit _ _) (fieldBits_bit m)
theorem flat_bit (l : List Msg) : ∀ b ∈ l.flatMap oneBits, Bit b := by
 intro b hb
 simp only [List.mem_flatMap] at hb
 obtain ⟨m, _, hb⟩ := hb
 exact oneBits_bit m b hb
set_option maxRecDepth 20000 in
set_option maxHeartbeats 1000000 in
theorem write24_c {ms : List Msg} {p : Option Addr} {c : Nat} (hm : MsgsAt w w.heap.size p ms) (hok : Msok ms) (hk : ∀ m ∈ ms, 1 ≤ m.kind ∧ m.kind ≤ 9) (hlen : ms.length ≤ 100) :
  callV Tryz.prog 73 [.slice p ms.length c] w fun v w' => v = .string (strOfNums (pack (encBits ms))) ∧ Fm none' w w' := by
 have hsum : ∀ j, ((ms.take j).flatMap oneBits).length ≤ 1630400 := by
  intro j
  have h1 := oneBits_sum (ms := ms.take j) fun m hm => hok.len m (List.mem_of_mem_take hm)
  have h2 : (ms.take j).length ≤ 100 := by rw [List.length_take]; omega
  exact Nat.le_trans h1 (Nat.mul_le_mul_right 16304 h2)
 refine vc73 p ms.length c w _ ?_
 refine (textX (ms.length : Int) 5 (by omega)).mono ?_
 rintro _ w1 ⟨rfl, hf1⟩
 simp only [vq, eqV, nilV]
 refine ⟨fun u w' => ∃ j : Nat, j ≤ ms.length ∧ u 3 = .string (txt (bitsOf (IntKind.u64.wrap (ms.length : Int)) 5 ++ (ms.take j).flatMap oneBits)) ∧ u 4 = .int .i64 j ∧ Fm none' w w', fun u _ => ms.length - (intOf (u 4)).toNat, ⟨0, by omega, by simp [alist], rfl, hf1⟩, ?_⟩
 rintro u w6 ⟨j, hj, h3, h4, hF⟩
 change u 3 = _ at h3
 change u 4 = _ at h4
 simp only [h3, h4, vq, eqV, nilV]
 have hs := hsum j
 refine br_dec (fun hjl => ?_) (fun hjl => ?_)
 ·obtain ⟨m, hmj⟩ : ∃ m, ms[j]? = some m := ⟨ms[j]'(by omega), by simp⟩
  have hmem := List.mem_of_getElem? hmj
  obtain ⟨ad, q, cq, rfl, hadN, hcells, hq, -⟩ := (hm.keep hF fun _ _ => id) j m hmj
  simp only [vq, eqV, nilV]
  refine ⟨by omega, rd_of hcells ?_⟩
  refine (bits48_c (hok.ok m hmem) (hok.len m hmem) hq (hk m hmem).1 (hk m hmem).2).mono ?_
  rintro _ w14 ⟨rfl, hf14⟩
  simp only [vq, eqV, nilV]
  have hfl := fieldBits_len m
  have hml := hok.len m hmem
  refine cat1 (by rw [List.length_append, bitsOf_length]; unfold oneBits at hs ⊢; rw [List.length_append, bitsOf_length]; omega) ?_
  rw [w64 (by omega)]
  refine ⟨⟨j + 1, by omega, ?_, rfl, hF.trans hf14⟩, ?_⟩
  ·show Value.string _ = _
   rw [List.take_add_one, hmj, List.flatMap_append, List.append_assoc]
   simp
  ·show ms.length - ((j : Int) + 1).toNat < ms.length - (j : Int).toNat; omega
 ·have : j = ms.length := by omega
  subst this
  rw [List.take_length]
  rw [List.take_length] at hs
  refine (bytes49_c (app_bit (bitsOf_bit _ _) (flat_bit ms)) (by rw [List.length_append, bitsOf_length]; omega)).mono ?_
  rintro _ w20 ⟨rfl, hf20⟩
  simp only [vq, eqV, nilV]
  exact ⟨rfl, hF.trans hf20⟩
set_option maxRecDepth 20000 in
set_option maxHeartbeats 1000000 in
theorem encode15_c {ms : List Msg} {p : Option Addr} {c : Nat} (hm : MsgsAt w w.heap.size p ms) (hok : Msok ms) (hlen : ms.length ≤ 100) :
  callV Tryz.prog 58 [.slice p ms.length c] w fun v w' => v = .tuple #[.string (strOfNums (encodeM ms).1), .int .i64 (encodeM ms).2] ∧ Fm none' w w' := by
 refine vc58 p ms.length c w _ ?_
 refine ⟨fun u w' => ∃ j : Nat, j ≤ ms.length ∧ u 4 = .int .i64 j ∧ (∀ m ∈ ms.take j, rightM m = true) ∧ Fm none' w w', fun u _ => ms.length - (intOf (u 4)).toNat, ⟨0, by omega, rfl, by simp, Fm.refl _ _⟩, ?_⟩
 rintro u w3 ⟨j, hj, h4, hright, hF⟩
 change u 4 = _ at h4
 simp only [h4, vq, eqV, nilV]
 refine br_dec (fun hjl => ?_) (fun hjl => ?_)
 ·obtain ⟨m, hmj⟩ : ∃ m, ms[j]? = some m := ⟨ms[j]'(by omega), by simp⟩
  have hmem := List.mem_of_getElem? hmj
  obtain ⟨ad, q, cq, rfl, hadN, hcells, hq, -⟩ := (hm.keep hF fun _ _ => id) j m hmj
  simp only [vq, eqV, nilV]
  refine ⟨by omega, rd_of hcells ?_⟩
  refine (right17_c (hok.ok m hmem) (by have := hok.len m hmem; omega) hq).mono ?_
  rintro _ w10 ⟨rfl, hf10⟩
  simp only [vq, eqV, nilV]
  refine br_ndec' (fun hr => ?_) (fun hr => ?_)
  ·have : encodeM ms = ([], 1) := by
    unfold encodeM
    rw [if_neg]
    intro h
    rw [List.all_eq_true] at h
    rw [h m hmem] at hr; cases hr
   rw [this]
   exact ⟨rfl, hF.trans hf10⟩
  ·rw [w64 (by omega)]
   refine ⟨⟨j + 1, by omega, rfl, ?_, hF.trans hf10⟩, by show ms.length - ((j : Int) + 1).toNat < ms.length - (j : Int).toNat; omega⟩
   intro x hx
   rw [List.take_add_one, hmj] at hx
   rcases List.mem_append.1 hx with hx | hx
   ·exact hright x hx
   ·simp at hx; subst hx; exact hr
 ·have : j = ms.length := by omega
  subst this
  rw [List.take_length] at hright
  have hall : ms.all rightM = true := List.all_eq_true.2 hright
  have e1 : encodeM ms = if 16 < ms.length ∨ 1024 < (pack (encBits ms)).length then ([], 5) else (pack (encBits ms), 0) := by unfold encodeM; rw [if_pos hall]
  refine br_dec (fun h16 => ?_) (fun h16 => ?_)
  ·have : encodeM ms = ([], 5) := e1.trans (if_pos (.inl (by omega)))
   rw [this]
   exact ⟨rfl, hF⟩
  ·refine (write24_c (hm.fm hF) hok (fun m hm => ?_) hlen).mono ?_
   ·have := rok_of (hok.ok m hm) (by have := hok.len m hm; omega) (hright m hm)
    exact known_iff.1 this.known
   rintro _ w14 ⟨rfl, hf14⟩
   simp only [vq, eqV, nilV, strOfNums_size]
   refine br_dec (fun h10 => ?_) (fun h10 => ?_)
   ·have : encodeM ms = ([], 5) := e1.trans (if_pos (.inr (by omega)))
    rw [this]
    exact ⟨rfl, hF.trans hf14⟩
   ·have : encodeM ms = (pack (encBits ms), 0) := e1.trans (if_neg (by omega))
    rw [this]
    exact ⟨rfl, hF.trans hf14⟩
end Go.Proofs.YtipikchkbmgloaaGreatDoor
namespace Go.Proofs.YtipikchkbmgloaaGreatDoor
set_option linter.unusedSimpArgs false
set_option linter.unusedVariables false
open Go Go.RowKit VC
variable {w : World}
theorem catN {a b : List Int} {K : Value → Prop} (h : a.length + b.length ≤ 1000000) (k : K (.string (strOfNums (a ++ b)))) : rd (binV .add (.string (strOfNums a)) (.string (strOfNums b))) K := by
 refine rd_of ?_ k
 show catS _ _ = _
 rw [catS_of (by rw [strOfNums_size, strOfNums_size]; omega), strOfNums_app]
theorem catO {a b : List Int} {K : Value → Prop} (h : a.length + b.length ≤ 1000000) (k : K (.string (strOfNums (a ++ b)))) : rd (orO (binV .add (.string (strOfNums a)) (.string (strOfNums b))) none) K := by
 have e : binV .add (.string (strOfNums a)) (.string (strOfNums b)) = some (.string (strOfNums (a ++ b))) := by
  show catS _ _ = _
  rw [catS_of (by rw [strOfNums_size, strOfNums_size]; omega), strOfNums_app]
 rw [e]
 exact k
theorem beB_4 (n : Nat) (hn : n < 4294967296) : beB n 4 = beB (n / 65536) 2 ++ beB (n % 65536) 2 := by
 simp [beB, List.range_succ]
 omega
set_option maxRecDepth 20000 in
set_option maxHeartbeats 1000000 in
theorem encode11_c {d : Dg} {p : Option Addr} {c : Nat} (hd : Dok d) (hm : MsgsAt w w.heap.size p d.list) (hok : Msok d.list) (hlen : d.list.length ≤ 100) :
  callV Tryz.prog 29 [dgC d p c] w fun v w' => v = .tuple #[.string (strOfNums (encD d).1), .int .i64 (encD d).2] ∧ Fm none' w w' := by
 obtain ⟨hs, hl, hb⟩ := hd
 refine vc29 d.seq d.any d.last d.bits p d.list.length c w _ ?_
 refine allocC_of fun w1 hb1 hs1 hf1 => ?_
 have c1 : w1.cell? ⟨w.heap.size, 1, none⟩ = some (.bool d.any) := cellOf hb1 rfl
 have c2 : w1.cell? ⟨w.heap.size, 2, none⟩ = some (.int .u16 d.last) := cellOf hb1 rfl
 have c3 : w1.cell? ⟨w.heap.size, 3, none⟩ = some (.int .u32 d.bits) := cellOf hb1 rfl
 have c4 : w1.cell? ⟨w.heap.size, 4, none⟩ = some (.slice p d.list.length c) := cellOf hb1 rfl
 have hnil : ∀ (e : Int) (w' : World), encD d = ([], e) → Fm none' w w' → (.tuple #[.string ⟨⟨[]⟩⟩, .int .i64 e] : Value) = .tuple #[.string (strOfNums (encD d).1), .int .i64 (encD d).2] ∧ Fm none' w w' := by
  intro e w' he hf
  rw [he]
  exact ⟨rfl, hf⟩
 refine ⟨fun u w' => w' = w1 ∧ u 4 = .string (strOfNums (flagB d.any)), ?_, ?_⟩
 ·simp only [c1, vq, eqV, nilV]
  cases d.any with
  | true => exact rfl
  | false => exact rfl
 rintro u w7 ⟨rfl, h4⟩
 change u 4 = _ at h4
 refine ⟨fun _ w' => w' = w7 ∧ ¬ (d.any = false ∧ (d.last ≠ 0 ∨ d.bits ≠ 0)), ?_, ?_⟩
 ·simp only [c1, c2, c3, vq, eqV, nilV]
  cases ha : d.any with
  | true => exact fun h => by cases h.1
  | false =>
   refine br_ndec (fun h => ?_) (fun h => ?_)
   ·exact hnil 1 w7 (by unfold encD; rw [if_pos ⟨ha, .inl (by omega)⟩]) hf1
   ·refine br_ndec (fun h' => ?_) (fun h' => ?_)
    ·exact hnil 1 w7 (by unfold encD; rw [if_pos ⟨ha, .inr (by omega)⟩]) hf1
    ·exact fun h => by rcases h.2 with e | e <;> omega
 rintro u' w18 ⟨rfl, hgo⟩
 simp only [c4, vq, eqV, nilV]
 refine (encode15_c (hm.fm hf1) hok hlen).mono ?_
 rintro _ w25 ⟨rfl, hf25⟩
 simp only [vq, eqV, nilV, List.getElem?_toArray, List.getElem?_cons_zero, List.getElem?_cons_succ]
 have hF25 := hf1.trans hf25
 refine br_ndec (fun he => ?_) (fun he => ?_)
 ·exact hnil _ w25 (by unfold encD; rw [if_neg hgo, if_pos he]) hF25
 have he0 : (encodeM d.list).2 = 0 := he
 have hbox : w25.drew.heap[w.heap.size]? = some (.cells #[.int .u16 d.seq, .bool d.any, .int .u16 d.last, .int .u32 d.bits, .slice p d.list.length c] 102 (0, 0)) := hf25.keep hb1 id
 refine ⟨fun w' => w'.heap[w.heap.size]? = some (.cells #[.int .u16 d.seq, .bool d.any, .int .u16 d.last, .int .u32 d.bits, .slice p d.list.length c] 102 (0, 0)), hbox, ?_⟩
 refine rd_of (v := .int .u16 d.seq) (cellOf hbox rfl) ⟨fun w' hw => rd_of (v := .int .u16 d.seq) (cellOf hw rfl) rfl, ?_⟩
 simp only [h4, vq, eqV, nilV]
 refine rd_of (v := .int .u16 d.last) (cellOf hbox rfl) ⟨fun w' hw => rd_of (v := .int .u16 d.last) (cellOf hw rfl) rfl, ?_⟩
 simp only [vq, eqV, nilV]
 refine rd_of (v := .int .u32 d.bits) (cellOf hbox rfl) ⟨fun w' hw => rd_of (v := .int .u32 d.bits) (cellOf hw rfl) rfl, ?_⟩
 simp only [vq, eqV, nilV]
 refine rd_of (v := .int .u32 d.bits) (cellOf hbox rfl) ⟨fun w' hw => rd_of (v := .int .u32 d.bits) (cellOf hw rfl) rfl, ?_⟩
 simp only [vq, eqV, nilV]
 have hel : (encodeM d.list).1.length ≤ 1024 := by
  obtain ⟨-, -, h3, h4⟩ := enc_ok hok he0
  rw [h4]; exact h3
 have her := enc_range d.list
 have lf : (flagB d.any).length = 1 := rfl
 rw [show IntKind.i64.wrap (d.seq : Int) = (d.seq : Int) from w64 (by omega), show IntKind.i64.wrap (d.last : Int) = (d.last : Int) from w64 (by omega)]
 refine (two27_c hs).mono ?_
 rintro _ w79 ⟨rfl, hf79⟩
 simp only [vq, eqV, nilV]
 refine ⟨hf79.keep hbox id, catO (by simp [beB_length, lf]) ⟨fun w' hw => catO (by simp [beB_length, lf]) rfl, ?_⟩⟩
 simp only [vq, eqV, nilV]
 refine (two27_c hl).mono ?_
 rintro _ w87 ⟨rfl, hf87⟩
 have hF87 := hf79.trans hf87
 simp only [vq, eqV, nilV]
 refine ⟨hF87.keep hbox id, catO (by simp [beB_length, lf]) ⟨fun w' hw => catO (by simp [beB_length, lf]) rfl, ?_⟩⟩
 simp only [vq, eqV, nilV]
 have t1 : IntKind.i64.wrap (IntKind.u32.wrap (Int.tdiv (d.bits : Int) 65536)) = ((d.bits / 65536 : Nat) : Int) := by
  rw [Int.tdiv_eq_ediv_of_nonneg (by omega), show (d.bits : Int) / 65536 = ((d.bits / 65536 : Nat) : Int) by omega, w32 (by omega), w64 (by omega)]
 have t2 : IntKind.i64.wrap (Int.tmod (d.bits : Int) 65536) = ((d.bits % 65536 : Nat) : Int) := by
  rw [Int.tmod_eq_emod_of_nonneg (by omega), show (d.bits : Int) % 65536 = ((d.bits % 65536 : Nat) : Int) by omega, w64 (by omega)]
 rw [t1, t2]
 refine (two27_c (n := d.bits / 65536) (by omega)).mono ?_
 rintro _ w95 ⟨rfl, hf95⟩
 have hF95 := hF87.trans hf95
 simp only [vq, eqV, nilV]
 refine ⟨hF95.keep hbox id, catO (by simp [beB_length, lf]) ⟨fun w' hw => catO (by simp [beB_length, lf]) rfl, ?_⟩⟩
 simp only [vq, eqV, nilV]
 refine (two27_c (n := d.bits % 65536) (by omega)).mono ?_
 rintro _ w103 ⟨rfl, hf103⟩
 have hF103 := hF95.trans hf103
 simp only [vq, eqV, nilV]
 refine ⟨hF103.keep hbox id, catO (by simp [beB_length, lf]) ⟨fun w' hw => catO (by simp [beB_length, lf]) rfl, ?_⟩⟩
 simp only [vq, eqV, nilV]
 refine catO (by simp [beB_length, lf]; omega) ⟨fun w' hw => catO (by simp [beB_length, lf]; omega) rfl, ?_⟩
 simp only [vq, eqV, nilV]
 have ehd : beB d.seq 2 ++ flagB d.any ++ beB d.last 2 ++ beB (d.bits / 65536) 2 ++ beB (d.bits % 65536) 2 = headB d := by
  unfold headB
  rw [beB_4 _ hb, ← List.append_assoc]
 rw [ehd]
 obtain ⟨x, hx⟩ : ∃ x, x = headB d ++ (encodeM d.list).1 := ⟨_, rfl⟩
 rw [← hx]
 have hxl : x.length = 9 + (encodeM d.list).1.length := by rw [hx, List.length_append, headB_length]
 have hxr : ∀ y ∈ x, 0 ≤ y ∧ y < 256 := by
  intro y hy
  rw [hx, List.mem_append] at hy
  exact hy.elim (headB_r d y) (her y)
 refine (sum28_c hxr (by omega)).mono ?_
 rintro _ _ ⟨rfl, rfl⟩
 simp only [vq, eqV, nilV]
 have hcl := crcF_lt x 65535 (by omega) hxr
 rw [show IntKind.i64.wrap ((crcF 65535 x : Nat) : Int) = ((crcF 65535 x : Nat) : Int) from w64 (by omega)]
 refine (two27_c hcl).mono ?_
 rintro _ w121 ⟨rfl, hf121⟩
 simp only [vq, eqV, nilV]
 have hbl : x.length + (beB (crcF 65535 x) 2).length ≤ 1000000 := by rw [beB_length]; omega
 first | refine catO hbl ?_ | refine catN hbl ?_
 simp only [vq, eqV, nilV, strOfNums_size]
 have hF121 : Fm none' w w121 := ((hF25.trans (Fm.drew w25)).trans hF103).trans hf121
 have hsl : sealB x = x ++ beB (crcF 65535 x) 2 := rfl
 have hen : encD d = if 1024 < (sealB x).length then ([], 5) else (sealB x, 0) := by
  unfold encD
  rw [if_neg hgo, if_neg (by simpa using he0), ← hx]
 refine br_dec (fun h => ?_) (fun h => ?_)
 ·exact hnil 5 w121 (by rw [hen, if_pos (by rw [hsl]; omega)]) hF121
 ·rw [hen, if_neg (by rw [hsl]; omega)]
  exact ⟨rfl, hF121⟩
end Go.Proofs.YtipikchkbmgloaaGreatDoor
namespace Go.Proofs.YtipikchkbmgloaaGreatDoor
set_option linter.unusedSimpArgs false
set_option linter.unusedVariables false
open Go VC
theorem vc78 (a : Addr) (b : Int) (w : World) (R : Value → World → Prop)
 (h : callV Tryz.prog (90 : Nat) [Value.pointer (some a), Value.int IntKind.i64 b] w fun v0 w1 => isStr v0 fun x2 => callV Tryz.prog (91 : Nat) [Value.string x2] w1 fun v3 w4 => isK IntKind.u64 v3 fun i5 => R (Value.int IntKind.i64 (IntKind.wrap IntKind.i64 i5)) w4) :
 callV Tryz.prog 78 [Value.pointer (some a), Value.int IntKind.i64 b] w R :=
 vc_of hm noHints Tryz.func78 ent78 (by kernel_rfl) h
theorem vc79 (a : Addr) (b : Bool) (w : World) (R : Value → World → Prop)
 (h : br (!b) (rd (World.cell? w (Addr.add a (1 : Nat))) fun v0 => isK IntKind.i64 v0 fun i1 => br (decide (i1 = (0 : Int))) (stC w (Addr.add a (1 : Nat)) [Value.int IntKind.i64 (3 : Int)] fun w2 => R (Value.tuple #[]) w2) (R (Value.tuple #[]) w)) (R (Value.tuple #[]) w)) :
 callV Tryz.prog 79 [Value.pointer (some a), Value.bool b] w R :=
 vc_of hm noHints Tryz.func79 ent79 (by kernel_rfl) h
theorem vc81 (a : ByteArray) (w : World) (R : Value → World → Prop)
 (h : loopC (alist [((3 : Nat), Value.int IntKind.i64 (0 : Int))]) w fun u0 u1 => ∀ (u2 : Nat → Value) (w3 : World), u0 (alist [((3 : Nat), u2 (3 : Nat))]) w3 → isK IntKind.i64 (u2 (3 : Nat)) fun i5 => br (decide (i5 < (↑(ByteArray.size a) : Int))) (isK IntKind.i64 (u2 (3 : Nat)) fun i6 => runs Tryz.prog (Instr.index (9 : Nat) (Value.string a) (Value.int IntKind.i64 i6)) w3 fun v7 w8 => isK IntKind.u8 v7 fun i9 => br (!decide (i9 = (48 : Int))) (R (Value.bool false) w8) (isK IntKind.i64 (u2 (3 : Nat)) fun i10 => again u0 u1 (alist [((3 : Nat), Value.int IntKind.i64 (IntKind.wrap IntKind.i64 (i10 + (1 : Int))))]) w8 (alist [((3 : Nat), u2 (3 : Nat))]) w3)) (R (Value.bool (decide ((↑(ByteArray.size a) : Int) < (8 : Int)))) w3)) :
 callV Tryz.prog 81 [Value.string a] w R :=
 vc_of hm ⟨fun _ => false, fun _ => .done, fun n => match n with | 2 => [3] | _ => []⟩ Tryz.func81 ent81 (by kernel_rfl) h
theorem vc90 (a : Addr) (b : Int) (w : World) (R : Value → World → Prop)
 (h : rd (World.cell? w (Addr.add a (1 : Nat))) fun v0 => isK IntKind.i64 v0 fun i1 => br (decide (i1 = (0 : Int))) (rd (World.cell? w a) fun v2 => isStr v2 fun x3 => br (decide ((↑(ByteArray.size x3) : Int) < b)) (stC w (Addr.add a (1 : Nat)) [Value.int IntKind.i64 (2 : Int)] fun w4 => rd (World.cell? w4 (Addr.add a (1 : Nat))) fun v5 => isK IntKind.i64 v5 fun i6 => br (!decide (i6 = (0 : Int))) (R (Value.string { data := #[] : ByteArray }) w4) (rd (World.cell? w4 a) fun v7 => isStr v7 fun x8 => runs Tryz.prog (Instr.sliceAt (9 : Nat) (Value.string x8) none (some (Value.int IntKind.i64 b)) none) w4 fun v9 w10 => isStr v9 fun x11 => rd (World.cell? w10 a) fun v12 => isStr v12 fun x13 => runs Tryz.prog (Instr.sliceAt (9 : Nat) (Value.string x13) (some (Value.int IntKind.i64 b)) none none) w10 fun v14 w15 => isStr v14 fun x16 => stC w15 a [Value.string x16] fun w17 => R (Value.string x11) w17)) (rd (World.cell? w (Addr.add a (1 : Nat))) fun v18 => isK IntKind.i64 v18 fun i19 => br (!decide (i19 = (0 : Int))) (R (Value.string { data := #[] : ByteArray }) w) (rd (World.cell? w a) fun v20 => isStr v20 fun x21 => runs Tryz.prog (Instr.sliceAt (9 : Nat) (Value.string x21) none (some (Value.int IntKind.i64 b)) none) w fun v22 w23 => isStr v22 fun x24 => rd (World.cell? w23 a) fun v25 => isStr v25 fun x26 => runs Tryz.prog (Instr.sliceAt (9 : Nat) (Value.string x26) (some (Value.int IntKind.i64 b)) none none) w23 fun v27 w28 => isStr v27 fun x29 => stC w28 a [Value.string x29] fun w30 => R (Value.string x24) w30))) (rd (World.cell? w (Addr.add a (1 : Nat))) fun v31 => isK IntKind.i64 v31 fun i32 => br (!decide (i32 = (0 : Int))) (R (Value.string { data := #[] : ByteArray }) w) (rd (World.cell? w a) fun v33 => isStr v33 fun x34 => runs Tryz.prog (Instr.sliceAt (9 : Nat) (Value.string x34) none (some (Value.int IntKind.i64 b)) none) w fun v35 w36 => isStr v35 fun x37 => rd (World.cell? w36 a) fun v38 => isStr v38 fun x39 => runs Tryz.prog (Instr.sliceAt (9 : Nat) (Value.string x39) (some (Value.int IntKind.i64 b)) none none) w36 fun v40 w41 => isStr v40 fun x42 => stC w41 a [Value.string x42] fun w43 => R (Value.string x37) w43))) :
 callV Tryz.prog 90 [Value.pointer (some a), Value.int IntKind.i64 b] w R :=
 vc_of hm noHints Tryz.func90 ent90 (by kernel_rfl) h
theorem vc92 (a : Addr) (b : Int) (w : World) (R : Value → World → Prop)
 (h : callV Tryz.prog (90 : Nat) [Value.pointer (some a), Value.int IntKind.i64 b] w fun v0 w1 => isStr v0 fun x2 => callV Tryz.prog (98 : Nat) [Value.string x2] w1 fun v3 w4 => isK IntKind.i64 v3 fun i5 => R (Value.int IntKind.i64 i5) w4) :
 callV Tryz.prog 92 [Value.pointer (some a), Value.int IntKind.i64 b] w R :=
 vc_of hm noHints Tryz.func92 ent92 (by kernel_rfl) h
theorem vc93 (a : Addr) (b : Int) (c : Int) (w : World) (R : Value → World → Prop)
 (h : allocC w (Obj.cells #[Value.int IntKind.i64 (0 : Int), Value.int IntKind.i64 (0 : Int), Value.int IntKind.i64 (0 : Int)] (37 : Nat)) fun n0 w1 => allocC w1 (Obj.cells #[Value.int IntKind.i64 (0 : Int), Value.int IntKind.i64 (0 : Int), Value.int IntKind.i64 (0 : Int)] (37 : Nat)) fun n2 w3 => stC w3 { block := n2, off := (0 : Nat) : Addr } [Value.int IntKind.i64 (0 : Int), Value.int IntKind.i64 (0 : Int), Value.int IntKind.i64 (0 : Int)] fun w4 => callV Tryz.prog (92 : Nat) [Value.pointer (some a), Value.int IntKind.i64 b] w4 fun v5 w6 => isK IntKind.i64 v5 fun i7 => stC w6 { block := n2, off := (0 : Nat) : Addr } [Value.int IntKind.i64 i7] fun w8 => cutC (fun u9 => br (decide (c < (0 : Int))) (callV Tryz.prog (79 : Nat) [Value.pointer (some a), Value.bool true] w8 fun v10 w11 => u9 (alist []) w11) (rd (World.cell? w8 { block := n2, off := (0 : Nat) : Addr }) fun v12 => isK IntKind.i64 v12 fun i13 => br (decide (i13 ≤ c)) (rd (World.cell? w8 { block := n2, off := (0 : Nat) : Addr }) fun v14 => isK IntKind.i64 v14 fun i15 => callV Tryz.prog (79 : Nat) [Value.pointer (some a), Value.bool (decide (IntKind.wrap IntKind.i64 ((0 : Int) - c) ≤ i15))] w8 fun v16 w17 => u9 (alist []) w17) (callV Tryz.prog (79 : Nat) [Value.pointer (some a), Value.bool false] w8 fun v18 w19 => u9 (alist []) w19))) fun u20 => ∀ (u21 : Nat → Value) (w22 : World), u20 (alist []) w22 → callV Tryz.prog (92 : Nat) [Value.pointer (some a), Value.int IntKind.i64 b] w22 fun v24 w25 => isK IntKind.i64 v24 fun i26 => stC w25 { block := n2, off := (1 : Nat) : Addr } [Value.int IntKind.i64 i26] fun w27 => cutC (fun u28 => br (decide (c < (0 : Int))) (callV Tryz.prog (79 : Nat) [Value.pointer (some a), Value.bool true] w27 fun v29 w30 => u28 (alist []) w30) (rd (World.cell? w27 { block := n2, off := (1 : Nat) : Addr }) fun v31 => isK IntKind.i64 v31 fun i32 => br (decide (i32 ≤ c)) (rd (World.cell? w27 { block := n2, off := (1 : Nat) : Addr }) fun v33 => isK IntKind.i64 v33 fun i34 => callV Tryz.prog (79 : Nat) [Value.pointer (some a), Value.bool (decide (IntKind.wrap IntKind.i64 ((0 : Int) - c) ≤ i34))] w27 fun v35 w36 => u28 (alist []) w36) (callV Tryz.prog (79 : Nat) [Value.pointer (some a), Value.bool false] w27 fun v37 w38 => u28 (alist []) w38))) fun u39 => ∀ (u40 : Nat → Value) (w41 : World), u39 (alist []) w41 → callV Tryz.prog (92 : Nat) [Value.pointer (some a), Value.int IntKind.i64 b] w41 fun v43 w44 => isK IntKind.i64 v43 fun i45 => stC w44 { block := n2, off := (2 : Nat) : Addr } [Value.int IntKind.i64 i45] fun w46 => cutC (fun u47 => br (decide (c < (0 : Int))) (callV Tryz.prog (79 : Nat) [Value.pointer (some a), Value.bool true] w46 fun v48 w49 => u47 (alist []) w49) (rd (World.cell? w46 { block := n2, off := (2 : Nat) : Addr }) fun v50 => isK IntKind.i64 v50 fun i51 => br (decide (i51 ≤ c)) (rd (World.cell? w46 { block := n2, off := (2 : Nat) : Addr }) fun v52 => isK IntKind.i64 v52 fun i53 => callV Tryz.prog (79 : Nat) [Value.pointer (some a), Value.bool (decide (IntKind.wrap IntKind.i64 ((0 : Int) - c) ≤ i53))] w46 fun v54 w55 => u47 (alist []) w55) (callV Tryz.prog (79 : Nat) [Value.pointer (some a), Value.bool false] w46 fun v56 w57 => u47 (alist []) w57))) fun u58 => ∀ (u59 : Nat → Value) (w60 : World), u58 (alist []) w60 → rd (cellsAt w60 { block := n2, off := (0 : Nat) : Addr } (3 : Nat)) fun l62 => rd (gd (List.length l62 == (3 : Nat))) fun _x => stC w60 { block := n0, off := (0 : Nat) : Addr } l62 fun w63 => rd (cellsAt w63 { block := n0, off := (0 : Nat) : Addr } (3 : Nat)) fun l64 => R (Value.agg (List.toArray l64)) w63) :
 callV Tryz.prog 93 [Value.pointer (some a), Value.int IntKind.i64 b, Value.int IntKind.i64 c] w R :=
 vc_of hm ⟨fun n => match n with | 4 => true | 6 => true | 8 => true | _ => false, fun _ => .done, fun n => match n with | 4 => [] | 6 => [] | 8 => [] | _ => []⟩ Tryz.func93 ent93 (by kernel_rfl) h
theorem vc94 (a : Addr) (w : World) (R : Value → World → Prop)
 (h : callV Tryz.prog (78 : Nat) [Value.pointer (some a), Value.int IntKind.i64 (31 : Int)] w fun v0 w1 => isK IntKind.i64 v0 fun i2 => callV Tryz.prog (79 : Nat) [Value.pointer (some a), Value.bool (decide ((0 : Int) < i2))] w1 fun v3 w4 => R (Value.int IntKind.i64 i2) w4) :
 callV Tryz.prog 94 [Value.pointer (some a)] w R :=
 vc_of hm noHints Tryz.func94 ent94 (by kernel_rfl) h
theorem vc98 (a : ByteArray) (w : World) (R : Value → World → Prop)
 (h : callV Tryz.prog (91 : Nat) [Value.string a] w fun v0 w1 => isK IntKind.u64 v0 fun i2 => br (!decide (a = { data := #[] : ByteArray })) (runs Tryz.prog (Instr.index (9 : Nat) (Value.string a) (Value.int IntKind.i64 (0 : Int))) w1 fun v3 w4 => isK IntKind.u8 v3 fun i5 => br (decide (i5 = (49 : Int))) (br (decide ((↑(ByteArray.size a) : Int) < (64 : Int))) (R (Value.int IntKind.i64 (IntKind.wrap IntKind.i64 (IntKind.wrap IntKind.i64 i2 - IntKind.wrap IntKind.i64 ((1 : Int) * (2 : Int) ^ min (ByteArray.size a % (18446744073709551616 : Nat)) (64 : Nat))))) w4) (R (Value.int IntKind.i64 (IntKind.wrap IntKind.i64 i2)) w4)) (R (Value.int IntKind.i64 (IntKind.wrap IntKind.i64 i2)) w4)) (R (Value.int IntKind.i64 (IntKind.wrap IntKind.i64 i2)) w1)) :
 callV Tryz.prog 98 [Value.string a] w R :=
 vc_of hm noHints Tryz.func98 ent98 (by kernel_rfl) h
end Go.Proofs.YtipikchkbmgloaaGreatDoor
namespace Go.Proofs.YtipikchkbmgloaaGreatDoor
set_option linter.unusedSimpArgs false
set_option linter.unusedVariables false
open Go Go.RowKit VC
variable {w : World} {R : Nat} {s : RS}
theorem pow_int {a k c : Nat} (h : a ≤ k) (hc : 2 ^ k = c) : (2 : Int) ^ a ≤ (c : Int) := by
 have := Nat.pow_le_pow_right (n := 2) (by omega) h
 rw [hc] at this
 have h2 := Int.ofNat_le.2 this
 rw [Int.natCast_pow] at h2
 exact h2
def RefAt (w : World) (R : Nat) (s : RS) : Prop :=
 ∃ rem : List Int, w.heap[R]? = some (.cells #[.string (txt rem), .int .i64 s.e] 178 (0, 0)) ∧ (s.e = 0 → rem = s.rem) ∧ (∀ b ∈ rem, Bit b) ∧ rem.length ≤ 1000000
theorem RefAt.keep {w' : World} {S : Nat → Prop} (h : RefAt w R s) (f : Fm S w w') (hS : ¬ S R) : RefAt w' R s := by
 obtain ⟨rem, h1, h2⟩ := h
 exact ⟨rem, f.keep h1 hS, h2⟩
theorem slice_txt_h {bs : List Int} {h : Nat} {K : Value → World → Prop} (hh : h ≤ bs.length) (k : K (.string (txt (bs.take h))) w) : runs Tryz.prog (Instr.sliceAt 9 (.string (txt bs)) none (some (.int .i64 (h : Int))) none) w K := by
 have hu := string_of_row (P := Tryz.prog) (t := 9) (by rw [row9])
 refine ⟨_, _, ?_, k⟩
 rw [run_sliceAt_string w 9 _ _ _ _ hu, run_slice_string_h w 9 _ hu _ _ (by omega) (by rw [txt_size]; omega)]
 unfold txt
 rw [Int.toNat_natCast, extract_str, List.drop_zero, List.map_take]
theorem slice_txt_l {bs : List Int} {h : Nat} {K : Value → World → Prop} (hh : h ≤ bs.length) (k : K (.string (txt (bs.drop h))) w) : runs Tryz.prog (Instr.sliceAt 9 (.string (txt bs)) (some (.int .i64 (h : Int))) none none) w K := by
 have hu := string_of_row (P := Tryz.prog) (t := 9) (by rw [row9])
 refine ⟨_, _, ?_, k⟩
 rw [run_sliceAt_string w 9 _ _ _ _ hu, run_slice_string_l w 9 _ hu _ _ (by omega) (by rw [txt_size]; omega)]
 unfold txt
 rw [Int.toNat_natCast, extract_str, strOfNums_size, List.take_length, List.map_drop]
theorem failE_ne {e n : Int} {ok : Bool} (h : e ≠ 0) : failE e ok n = e := by unfold failE; rw [if_neg (fun x => h x.2)]
set_option maxRecDepth 20000 in
theorem take54_c {k : Nat} (hk : k ≤ 64) (h : RefAt w R s) : callV Tryz.prog 90 [.pointer (some ⟨R, 0, none⟩), .int .i64 k] w fun v w' =>
  ∃ x, v = .string (txt x) ∧ x.length ≤ k ∧ (∀ b ∈ x, Bit b) ∧ (s.e = 0 → x = if s.rem.length < k then [] else s.rem.take k) ∧ RefAt w' R (rdW k s).2 ∧ Fm (fun i => i = R) w w' := by
 obtain ⟨rem, h1, h2, h3, h4⟩ := h
 refine vc90 ⟨R, 0, none⟩ k w _ ?_
 simp only [addr_add, Nat.zero_add]
 refine rd_of (v := .int .i64 s.e) (cellOf h1 rfl) ?_
 simp only [vq, eqV, nilV]
 have nilx : ∀ b ∈ ([] : List Int), Bit b := fun b hb => by cases hb
 refine br_dec (fun he => ?_) (fun he => ?_)
 ·have hrem := h2 he
  subst hrem
  refine rd_of (v := .string (txt s.rem)) (cellOf h1 rfl) ?_
  simp only [vq, eqV, nilV, txt_size]
  refine br_dec (fun hl => ?_) (fun hl => ?_)
  ·refine stC_one h1 (by simp) rfl fun w4 hw4 hf4 => ?_
   refine rd_of (v := .int .i64 2) (cellOf hw4 rfl) ?_
   simp only [vq, eqV, nilV]
   refine br_ndec (fun _ => ?_) (fun h => by omega)
   refine ⟨[], rfl, by simp, nilx, fun _ => by rw [if_pos (by omega)], ?_, hf4⟩
   have hs : (rdW k s).2 = ⟨[], 2⟩ := by
    unfold rdW getR failE
    rw [if_pos (by omega), he]; simp
   rw [hs]
   exact ⟨s.rem, hw4, fun h => by simp at h, h3, h4⟩
  ·refine rd_of (v := .int .i64 s.e) (cellOf h1 rfl) ?_
   simp only [vq, eqV, nilV]
   refine br_ndec (fun h => absurd he h) (fun _ => ?_)
   refine rd_of (v := .string (txt s.rem)) (cellOf h1 rfl) ?_
   simp only [vq, eqV, nilV]
   refine slice_txt_h (by omega) ?_
   simp only [vq, eqV, nilV]
   refine rd_of (v := .string (txt s.rem)) (cellOf h1 rfl) ?_
   simp only [vq, eqV, nilV]
   refine slice_txt_l (by omega) ?_
   simp only [vq, eqV, nilV]
   refine stC_one h1 (by simp) rfl fun w4 hw4 hf4 => ?_
   refine ⟨s.rem.take k, rfl, by rw [List.length_take]; omega, fun b hb => h3 b (List.mem_of_mem_take hb), fun _ => by rw [if_neg (by omega)], ?_, hf4⟩
   have hs : (rdW k s).2 = ⟨s.rem.drop k, s.e⟩ := by
    unfold rdW getR failE
    rw [if_neg (by omega)]; simp
   rw [hs]
   exact ⟨s.rem.drop k, hw4, fun _ => rfl, fun b hb => h3 b (List.mem_of_mem_drop hb), by rw [List.length_drop]; omega⟩
 ·refine rd_of (v := .int .i64 s.e) (cellOf h1 rfl) ?_
  simp only [vq, eqV, nilV]
  refine br_ndec (fun _ => ?_) (fun h => absurd h he)
  refine ⟨[], rfl, by simp, nilx, fun h => absurd h he, ?_, Fm.refl _ _⟩
  have hs : (rdW k s).2 = ⟨(getR k s.rem).2.1, s.e⟩ := by
   unfold rdW
   simp only [failE_ne he]
  rw [hs]
  exact ⟨rem, h1, fun h => absurd h he, h3, h4⟩
theorem rdW_val {k : Nat} (s : RS) : (rdW k s).1 = val (if s.rem.length < k then [] else s.rem.take k) := by
 unfold rdW getR
 split <;> rfl
theorem number34_c {k : Nat} (hk : k ≤ 62) (h : RefAt w R s) : callV Tryz.prog 78 [.pointer (some ⟨R, 0, none⟩), .int .i64 k] w fun v w' =>
  ∃ x, v = .int .i64 x ∧ (0 ≤ x ∧ x < 2 ^ k) ∧ (s.e = 0 → x = (rdW k s).1) ∧ RefAt w' R (rdW k s).2 ∧ Fm (fun i => i = R) w w' := by
 refine vc78 ⟨R, 0, none⟩ k w _ ?_
 refine (take54_c (by omega) h).mono ?_
 rintro _ w1 ⟨x, rfl, hl, hb, hx, hr, hf⟩
 simp only [vq, eqV, nilV]
 refine (number55_c hb (by omega)).mono ?_
 rintro _ w4 ⟨rfl, hf4⟩
 simp only [vq, eqV, nilV]
 have hv := val_bound hb
 have hp : (2 : Int) ^ x.length ≤ 2 ^ k := by
  have := Nat.pow_le_pow_right (n := 2) (by omega) hl
  exact_mod_cast this
 have hp2 : (2 : Int) ^ k ≤ 2 ^ 62 := by
  have := Nat.pow_le_pow_right (n := 2) (by omega) hk
  exact_mod_cast this
 have h62 : (2 : Int) ^ 62 = 4611686018427387904 := rfl
 rw [w64 (by omega)]
 refine ⟨_, rfl, ⟨hv.1, by omega⟩, fun he => ?_, hr.keep hf4 id, hf.trans' hf4 fun i _ h => h.elim⟩
 rw [rdW_val, hx he]
theorem sgn_eq {k : Nat} (hk : k = 8 ∨ k = 18 ∨ k = 32) {v : Int} (h : 0 ≤ v ∧ v < 2 ^ k) : sgn k v = if 2 ^ (k - 1) ≤ v then v - 2 ^ k else v := by
 unfold sgn
 rw [u64w, IntKind.wrap_i64]
 rcases hk with rfl | rfl | rfl <;> simp only [Nat.reduceSub, Int.reducePow] at h ⊢ <;> rw [Int.fdiv_eq_ediv_of_nonneg _ (by omega)] <;> split <;> omega
theorem txt_nil {bs : List Int} (h : txt bs = ({ data := #[] } : ByteArray)) : bs = [] := by
 have := congrArg ByteArray.size h
 rw [txt_size] at this
 exact List.length_eq_zero_iff.1 this
set_option maxRecDepth 20000 in
theorem signed63_c {bs : List Int} (hb : ∀ b ∈ bs, Bit b) (hl : bs.length ≤ 32) : callV Tryz.prog 98 [.string (txt bs)] w fun v w' => v = .int .i64 (if bs ≠ [] ∧ 2 ^ (bs.length - 1) ≤ val bs then val bs - 2 ^ bs.length else val bs) ∧ Fm none' w w' := by
 refine vc98 _ w _ ?_
 refine (number55_c hb (by omega)).mono ?_
 rintro _ w1 ⟨rfl, hf1⟩
 simp only [vq, eqV, nilV, txt_size]
 have hv := val_bound hb
 have hp : (2 : Int) ^ bs.length ≤ 4294967296 := by
  exact pow_int (c := 4294967296) hl rfl
 have hw : IntKind.i64.wrap (val bs) = val bs := w64 (by omega)
 refine br_ndec (fun hne => ?_) (fun he => ?_)
 ·have hne' : bs ≠ [] := by rintro rfl; exact hne rfl
  obtain ⟨b, t, rfl⟩ := List.exists_cons_of_ne_nil hne'
  have hbb := hb b (by simp)
  refine index_str (ys := (b :: t).map (48 + ·)) (j := 0) (by rw [row9]) (txt_r hb) rfl ?_
  simp only [vq, eqV, nilV]
  have hvt := val_bound (bs := t) fun x hx => hb x (by simp [hx])
  have hvc := val_cons b t
  have hpw : (2 : Int) ^ (b :: t).length = 2 * 2 ^ t.length := by rw [List.length_cons, Int.pow_succ]; omega
  have hl1 : (b :: t).length - 1 = t.length := by simp
  rw [hl1]
  refine br_dec (fun h49 => ?_) (fun h49 => ?_)
  ·obtain rfl : b = 1 := by omega
   refine br_dec (fun _ => ?_) (fun h => absurd (by omega) h)
   have hs : min ((1 :: t).length % 18446744073709551616) 64 = (1 :: t).length := by rw [Nat.mod_eq_of_lt (by omega)]; omega
   rw [hs, hw, Int.one_mul, w64 (n := 2 ^ (1 :: t).length) (by omega), w64 (by omega)]
   refine ⟨?_, hf1⟩
   rw [if_pos ⟨by simp, by omega⟩]
  ·obtain rfl : b = 0 := by rcases hbb with h | h; exact h; omega
   rw [hw]
   refine ⟨?_, hf1⟩
   rw [if_neg (by rintro ⟨_, h⟩; omega)]
 ·have := txt_nil he
  subst this
  exact ⟨rfl, hf1⟩
theorem signed56_c {k : Nat} (hk : k = 8 ∨ k = 18 ∨ k = 32) (h : RefAt w R s) : callV Tryz.prog 92 [.pointer (some ⟨R, 0, none⟩), .int .i64 k] w fun v w' =>
  ∃ x, v = .int .i64 x ∧ I64 x ∧ (s.e = 0 → x = (rdS k s).1) ∧ RefAt w' R (rdS k s).2 ∧ Fm (fun i => i = R) w w' := by
 refine vc92 ⟨R, 0, none⟩ k w _ ?_
 refine (take54_c (by omega) h).mono ?_
 rintro _ w1 ⟨x, rfl, hl, hb, hx, hr, hf⟩
 simp only [vq, eqV, nilV]
 refine (signed63_c hb (by omega)).mono ?_
 rintro _ w4 ⟨rfl, hf4⟩
 simp only [vq, eqV, nilV]
 have hv := val_bound hb
 have hp : (2 : Int) ^ x.length ≤ 4294967296 := by
  exact pow_int (c := 4294967296) (show x.length ≤ 32 by omega) rfl
 refine ⟨_, rfl, ?_, fun he => ?_, hr.keep hf4 id, hf.trans' hf4 fun i _ h => h.elim⟩
 ·unfold I64; split <;> omega
 ·have h1 : (rdS k s).1 = sgn k (rdW k s).1 := rfl
  rw [h1, rdW_val, hx he]
  by_cases hs : s.rem.length < k
  ·rw [if_pos hs]
   have : sgn k (val []) = 0 := by rcases hk with rfl | rfl | rfl <;> decide
   rw [this]; rfl
  ·rw [if_neg hs]
   have hxl : (s.rem.take k).length = k := by rw [List.length_take]; omega
   have hxb := hb
   rw [hx he, if_neg hs] at hxb
   have hv2 := val_bound hxb
   rw [hxl] at hv2
   rw [sgn_eq hk hv2, hxl]
   have hne : s.rem.take k ≠ [] := by intro h; rw [h] at hxl; simp at hxl; omega
   simp [hne]
theorem must35_c {ok ok' : Bool} (hok : s.e = 0 → ok = ok') (h : RefAt w R s) : callV Tryz.prog 79 [.pointer (some ⟨R, 0, none⟩), .bool ok] w fun v w' => v = .tuple #[] ∧ RefAt w' R (rdF ok' s) ∧ Fm (fun i => i = R) w w' := by
 obtain ⟨rem, h1, h2, h3, h4⟩ := h
 refine vc79 ⟨R, 0, none⟩ ok w _ ?_
 simp only [addr_add, Nat.zero_add]
 have same : (s.e ≠ 0 ∨ ok = true) → RefAt w R (rdF ok' s) := by
  intro hc
  have : rdF ok' s = s := by
   by_cases he : s.e = 0
   ·have : ok' = true := by rw [← hok he]; exact hc.resolve_left (fun h => h he)
    rw [this, rdF_true]
   ·unfold rdF; rw [failE_ne he]
  rw [this]
  exact ⟨rem, h1, h2, h3, h4⟩
 refine br_ndec' (fun hf => ?_) (fun ht => ⟨trivial, same (.inr ht), Fm.refl _ _⟩)
 refine rd_of (v := .int .i64 s.e) (cellOf h1 rfl) ?_
 simp only [vq, eqV, nilV]
 refine br_dec (fun he => ?_) (fun he => ⟨same (.inl he), Fm.refl _ _⟩)
 refine stC_one h1 (by simp) rfl fun w2 hw2 hf2 => ⟨?_, hf2⟩
 have : rdF ok' s = ⟨s.rem, 3⟩ := by
  unfold rdF failE
  rw [if_pos ⟨by rw [← hok he]; exact hf, he⟩]
 rw [this]
 exact ⟨rem, hw2, fun h => by simp at h, h3, h4⟩
theorem id58_c (h : RefAt w R s) : callV Tryz.prog 94 [.pointer (some ⟨R, 0, none⟩)] w fun v w' => ∃ x, v = .int .i64 x ∧ I64 x ∧ (s.e = 0 → x = (rdId s).1) ∧ RefAt w' R (rdId s).2 ∧ Fm (fun i => i = R) w w' := by
 refine vc94 ⟨R, 0, none⟩ w _ ?_
 refine (number34_c (k := 31) (by omega) h).mono ?_
 rintro _ w1 ⟨x, rfl, hr, hx, h1, hf1⟩
 simp only [vq, eqV, nilV]
 have hw : IntKind.i64.wrap x = x := w64 (by omega)
 have heq : s.e = 0 → IntKind.i64.wrap (rdW 31 s).1 = x := fun he => by rw [← hx he, hw]
 refine (must35_c (ok' := decide (0 < IntKind.i64.wrap (rdW 31 s).1)) (fun he => ?_) h1).mono ?_
 ·rw [heq ((good_W 31).back s he)]
 rintro _ w4 ⟨rfl, h4, hf4⟩
 exact ⟨x, rfl, by unfold I64; omega, fun he => (heq he).symm, h4, hf1.trans hf4⟩
set_option maxRecDepth 20000 in
theorem vec57_c {k : Nat} {d : Int} (hk : k = 8 ∨ k = 18 ∨ k = 32) (hd : I64 d) (h : RefAt w R s) : callV Tryz.prog 93 [.pointer (some ⟨R, 0, none⟩), .int .i64 k, .int .i64 d] w fun v w' =>
  ∃ x y z, v = .agg #[.int .i64 x, .int .i64 y, .int .i64 z] ∧ (s.e = 0 → x = (stepV k d s).1) ∧ ((stepV k d s).2.e = 0 → y = (stepV k d (stepV k d s).2).1) ∧ ((stepV k d (stepV k d s).2).2.e = 0 → z = (stepV k d (stepV k d (stepV k d s).2).2).1) ∧
   RefAt w' R (stepV k d (stepV k d (stepV k d s).2).2).2 ∧ Fm (fun i => i = R) w w' := by
 obtain ⟨rem0, hR0, -⟩ := id h
 have hRl := lt_of_blk hR0
 refine vc93 ⟨R, 0, none⟩ k d w _ ?_
 refine allocC_of fun w1 hb1 hs1 hf1 => allocC_of fun w3 hb3 hs3 hf3 => ?_
 obtain ⟨A, hA⟩ : ∃ A, A = w.heap.size := ⟨_, rfl⟩
 obtain ⟨X, hX⟩ : ∃ X, X = w1.heap.size := ⟨_, rfl⟩
 have hA3 := hf3.keep hb1 id
 rw [← hA] at hA3 ⊢
 rw [← hX] at hb3 ⊢
 refine stC_all hb3 rfl (by intro v hv; simp at hv; subst hv; rfl) fun w4 hb4 hf4 => ?_
 have hF4 : Fm (fun i => i = R) w w4 := (hf1.trans hf3).none.trans' hf4 (by rintro i hi rfl; omega)
 have h4 : RefAt w4 R s := ((h.keep hf1 id).keep hf3 id).keep hf4 (by omega)
 have hA4 := hf4.keep hA3 (by omega)
 -- one axis
 have must : ∀ {w : World} {s : RS} {i : Nat} {C : Array Value} {x : Int} {K : World → Prop}, RefAt w R (rdS k s).2 → w.heap[X]? = some (.cells C 37 (0, 0)) → C[i]? = some (.int .i64 x) → (s.e = 0 → x = (rdS k s).1) →
   (∀ w', RefAt w' R (stepV k d s).2 → Fm (fun i => i = R) w w' → K w') →
   br (decide (d < 0)) (callV Tryz.prog 79 [.pointer (some ⟨R, 0, none⟩), .bool true] w fun _ w' => K w')
    (rd (w.cell? ⟨X, i, none⟩) fun v => isK .i64 v fun a => br (decide (a ≤ d)) (rd (w.cell? ⟨X, i, none⟩) fun v => isK .i64 v fun b => callV Tryz.prog 79 [.pointer (some ⟨R, 0, none⟩), .bool (decide (IntKind.i64.wrap (0 - d) ≤ b))] w fun _ w' => K w')
     (callV Tryz.prog 79 [.pointer (some ⟨R, 0, none⟩), .bool false] w fun _ w' => K w')) := by
  intro w s i C x K hr hC hi hx kk
  have hst : (stepV k d s).2 = rdF (decide (d < 0) || (decide (IntKind.i64.wrap (0 - d) ≤ (rdS k s).1) && decide ((rdS k s).1 ≤ d))) (rdS k s).2 := rfl
  have go : ∀ ok : Bool, ((rdS k s).2.e = 0 → ok = (decide (d < 0) || (decide (IntKind.i64.wrap (0 - d) ≤ (rdS k s).1) && decide ((rdS k s).1 ≤ d)))) → callV Tryz.prog 79 [.pointer (some ⟨R, 0, none⟩), .bool ok] w fun _ w' => K w' := by
   intro ok hok
   refine (must35_c hok hr).mono ?_
   rintro _ w' ⟨-, h1, h2⟩
   exact kk w' (by rw [hst]; exact h1) h2
  refine br_dec (fun hd => go true fun _ => by rw [decide_eq_true hd]; rfl) (fun hd => ?_)
  refine rd_of (v := .int .i64 x) (cellOf hC hi) ?_
  simp only [vq, eqV, nilV]
  have hxe : (rdS k s).2.e = 0 → x = (rdS k s).1 := fun he => hx ((good_S k).back s he)
  refine br_dec (fun h1 => ?_) (fun h1 => go false fun he => ?_)
  ·refine rd_of (v := .int .i64 x) (cellOf hC hi) ?_
   simp only [vq, eqV, nilV]
   refine go _ fun he => ?_
   rw [← hxe he, decide_eq_false hd, decide_eq_true h1]; simp
  ·rw [← hxe he, decide_eq_false hd, decide_eq_false h1]; simp
 have hRX : R ≠ X := by omega
 refine (signed56_c hk h4).mono ?_
 rintro _ w6 ⟨x, rfl, hix, hx, h6, hf6⟩
 simp only [vq, eqV, nilV]
 have hb6 := hf6.keep hb4 (by omega)
 refine stC_one hb6 (by simp) rfl fun w8 hb8 hf8 => ?_
 have h8 := h6.keep hf8 hRX
 have hF8 : Fm (fun i => i = R) w w8 := (hF4.trans hf6).trans' hf8 (by rintro i hi rfl; omega)
 have hA8 := hf8.keep (hf6.keep hA4 (by omega)) (by omega)
 refine ⟨fun _ w' => RefAt w' R (stepV k d s).2 ∧ Fm (fun i => i = R) w8 w', must h8 hb8 rfl hx fun w' h1 h2 => ⟨h1, h2⟩, ?_⟩
 rintro - w22 ⟨h22, hf22⟩
 have hb22 := hf22.keep hb8 (by omega)
 have hA22 := hf22.keep hA8 (by omega)
 refine (signed56_c hk h22).mono ?_
 rintro _ w25 ⟨y, rfl, hiy, hy, h25, hf25⟩
 simp only [vq, eqV, nilV]
 have hb25 := hf25.keep hb22 (by omega)
 refine stC_one hb25 (by simp) rfl fun w27 hb27 hf27 => ?_
 have h27 := h25.keep hf27 hRX
 have hA27 := hf27.keep (hf25.keep hA22 (by omega)) (by omega)
 have hF27 : Fm (fun i => i = R) w w27 := ((hF8.trans hf22).trans hf25).trans' hf27 (by rintro i hi rfl; omega)
 refine ⟨fun _ w' => RefAt w' R (stepV k d (stepV k d s).2).2 ∧ Fm (fun i => i = R) w27 w', must h27 hb27 rfl hy fun w' h1 h2 => ⟨h1, h2⟩, ?_⟩
 rintro - w41 ⟨h41, hf41⟩
 have hb41 := hf41.keep hb27 (by omega)
 have hA41 := hf41.keep hA27 (by omega)
 refine (signed56_c hk h41).mono ?_
 rintro _ w44 ⟨z, rfl, hiz, hz, h44, hf44⟩
 simp only [vq, eqV, nilV]
 have hb44 := hf44.keep hb41 (by omega)
 refine stC_one hb44 (by simp) rfl fun w46 hb46 hf46 => ?_
 have h46 := h44.keep hf46 hRX
 have hA46 := hf46.keep (hf44.keep hA41 (by omega)) (by omega)
 have hF46 : Fm (fun i => i = R) w w46 := ((hF27.trans hf41).trans hf44).trans' hf46 (by rintro i hi rfl; omega)
 refine ⟨fun _ w' => RefAt w' R (stepV k d (stepV k d (stepV k d s).2).2).2 ∧ Fm (fun i => i = R) w46 w', must h46 hb46 rfl hz fun w' h1 h2 => ⟨h1, h2⟩, ?_⟩
 rintro - w60 ⟨h60, hf60⟩
 have hb60 := hf60.keep hb46 (by omega)
 have hA60 := hf60.keep hA46 (by omega)
 refine rd_of (v := ([.int .i64 x, .int .i64 y, .int .i64 z] : List Value)) (cells_all hb60 rfl) ?_
 refine rd_of (v := ()) rfl ?_
 refine stC_all hA60 rfl (by intro v hv; simp at hv; rcases hv with rfl | rfl | rfl <;> rfl) fun w63 hb63 hf63 => ?_
 refine rd_of (v := ([.int .i64 x, .int .i64 y, .int .i64 z] : List Value)) (cells_all hb63 rfl) ?_
 exact ⟨x, y, z, rfl, hx, hy, hz, h60.keep hf63 (by omega), (hF46.trans hf60).trans' hf63 (by rintro i hi rfl; omega)⟩
end Go.Proofs.YtipikchkbmgloaaGreatDoor
namespace Go.Proofs.YtipikchkbmgloaaGreatDoor
set_option linter.unusedSimpArgs false
set_option linter.unusedVariables false
open Go VC
theorem vc80 (a : Addr) (w : World) (R : Value → World → Prop)
 (h : allocC w (Obj.cells #[Value.int IntKind.i64 (0 : Int), Value.int IntKind.u16 (0 : Int), Value.int IntKind.u16 (0 : Int), Value.int IntKind.u8 (0 : Int), Value.int IntKind.i8 (0 : Int), Value.int IntKind.i8 (0 : Int), Value.int IntKind.i64 (0 : Int), Value.int IntKind.u16 (0 : Int), Value.int IntKind.i64 (0 : Int), Value.int IntKind.i64 (0 : Int), Value.int IntKind.i64 (0 : Int), Value.int IntKind.i64 (0 : Int), Value.int IntKind.i64 (0 : Int), Value.int IntKind.i64 (0 : Int), Value.int IntKind.i64 (0 : Int), Value.int IntKind.i64 (0 : Int), Value.int IntKind.i64 (0 : Int), Value.int IntKind.i64 (0 : Int), Value.int IntKind.i64 (0 : Int), Value.int IntKind.i64 (0 : Int), Value.int IntKind.u32 (0 : Int), Value.int IntKind.u32 (0 : Int), Value.slice none (0 : Nat) (0 : Nat)] (41 : Nat)) fun n0 w1 => allocC w1 (Obj.cells #[Value.int IntKind.i64 (0 : Int), Value.int IntKind.u16 (0 : Int), Value.int IntKind.u16 (0 : Int), Value.int IntKind.u8 (0 : Int), Value.int IntKind.i8 (0 : Int), Value.int IntKind.i8 (0 : Int), Value.int IntKind.i64 (0 : Int), Value.int IntKind.u16 (0 : Int), Value.int IntKind.i64 (0 : Int), Value.int IntKind.i64 (0 : Int), Value.int IntKind.i64 (0 : Int), Value.int IntKind.i64 (0 : Int), Value.int IntKind.i64 (0 : Int), Value.int IntKind.i64 (0 : Int), Value.int IntKind.i64 (0 : Int), Value.int IntKind.i64 (0 : Int), Value.int IntKind.i64 (0 : Int), Value.int IntKind.i64 (0 : Int), Value.int IntKind.i64 (0 : Int), Value.int IntKind.i64 (0 : Int), Value.int IntKind.u32 (0 : Int), Value.int IntKind.u32 (0 : Int), Value.slice none (0 : Nat) (0 : Nat)] (41 : Nat)) fun n2 w3 => stC w3 { block := n2, off := (0 : Nat) : Addr } [Value.int IntKind.i64 (0 : Int), Value.int IntKind.u16 (0 : Int), Value.int IntKind.u16 (0 : Int), Value.int IntKind.u8 (0 : Int), Value.int IntKind.i8 (0 : Int), Value.int IntKind.i8 (0 : Int), Value.int IntKind.i64 (0 : Int), Value.int IntKind.u16 (0 : Int), Value.int IntKind.i64 (0 : Int), Value.int IntKind.i64 (0 : Int), Value.int IntKind.i64 (0 : Int), Value.int IntKind.i64 (0 : Int), Value.int IntKind.i64 (0 : Int), Value.int IntKind.i64 (0 : Int), Value.int IntKind.i64 (0 : Int), Value.int IntKind.i64 (0 : Int), Value.int IntKind.i64 (0 : Int), Value.int IntKind.i64 (0 : Int), Value.int IntKind.i64 (0 : Int), Value.int IntKind.i64 (0 : Int), Value.int IntKind.u32 (0 : Int), Value.int IntKind.u32 (0 : Int), Value.slice none (0 : Nat) (0 : Nat)] fun w4 => callV Tryz.prog (78 : Nat) [Value.pointer (some a), Value.int IntKind.i64 (4 : Int)] w4 fun v5 w6 => isK IntKind.i64 v5 fun i7 => stC w6 { block := n2, off := (0 : Nat) : Addr } [Value.int IntKind.i64 i7] fun w8 => cutC (fun u9 => rd (World.cell? w8 { block := n2, off := (0 : Nat) : Addr }) fun v10 => isK IntKind.i64 v10 fun i11 => br (decide ((1 : Int) ≤ i11)) (rd (World.cell? w8 { block := n2, off := (0 : Nat) : Addr }) fun v12 => isK IntKind.i64 v12 fun i13 => callV Tryz.prog (79 : Nat) [Value.pointer (some a), Value.bool (decide (i13 ≤ (9 : Int)))] w8 fun v14 w15 => u9 (alist []) w15) (callV Tryz.prog (79 : Nat) [Value.pointer (some a), Value.bool false] w8 fun v16 w17 => u9 (alist []) w17)) fun u18 => ∀ (u19 : Nat → Value) (w20 : World), u18 (alist []) w20 → cutC (fun u22 => rd (World.cell? w20 { block := n2, off := (0 : Nat) : Addr }) fun v23 => isK IntKind.i64 v23 fun i24 => br (decide (i24 = (2 : Int))) (callV Tryz.prog (78 : Nat) [Value.pointer (some a), Value.int IntKind.i64 (16 : Int)] w20 fun v25 w26 => isK IntKind.i64 v25 fun i27 => stC w26 { block := n2, off := (2 : Nat) : Addr } [Value.int IntKind.u16 (IntKind.wrap IntKind.u16 i27)] fun w28 => callV Tryz.prog (78 : Nat) [Value.pointer (some a), Value.int IntKind.i64 (2 : Int)] w28 fun v29 w30 => isK IntKind.i64 v29 fun i31 => stC w30 { block := n2, off := (3 : Nat) : Addr } [Value.int IntKind.u8 (IntKind.wrap IntKind.u8 i31)] fun w32 => callV Tryz.prog (92 : Nat) [Value.pointer (some a), Value.int IntKind.i64 (8 : Int)] w32 fun v33 w34 => isK IntKind.i64 v33 fun i35 => stC w34 { block := n2, off := (4 : Nat) : Addr } [Value.int IntKind.i8 (IntKind.wrap IntKind.i8 i35)] fun w36 => callV Tryz.prog (92 : Nat) [Value.pointer (some a), Value.int IntKind.i64 (8 : Int)] w36 fun v37 w38 => isK IntKind.i64 v37 fun i39 => stC w38 { block := n2, off := (5 : Nat) : Addr } [Value.int IntKind.i8 (IntKind.wrap IntKind.i8 i39)] fun w40 => callV Tryz.prog (78 : Nat) [Value.pointer (some a), Value.int IntKind.i64 (3 : Int)] w40 fun v41 w42 => isK IntKind.i64 v41 fun i43 => stC w42 { block := n2, off := (6 : Nat) : Addr } [Value.int IntKind.i64 (IntKind.wrap IntKind.i64 (i43 + (1 : Int)))] fun w44 => u22 (alist []) w44) (br (decide (i24 = (3 : Int))) (callV Tryz.prog (78 : Nat) [Value.pointer (some a), Value.int IntKind.i64 (16 : Int)] w20 fun v45 w46 => isK IntKind.i64 v45 fun i47 => stC w46 { block := n2, off := (7 : Nat) : Addr } [Value.int IntKind.u16 (IntKind.wrap IntKind.u16 i47)] fun w48 => callV Tryz.prog (78 : Nat) [Value.pointer (some a), Value.int IntKind.i64 (1 : Int)] w48 fun v49 w50 => isK IntKind.i64 v49 fun i51 => stC w50 { block := n2, off := (9 : Nat) : Addr } [Value.int IntKind.i64 i51] fun w52 => callV Tryz.prog (93 : Nat) [Value.pointer (some a), Value.int IntKind.i64 (18 : Int), Value.int IntKind.i64 (65536 : Int)] w52 fun v53 w54 => rd (gd (List.length (Array.toList (Value.cells v53)) == (3 : Nat))) fun _x => stC w54 { block := n2, off := (10 : Nat) : Addr } (cellsOf true v53) fun w55 => u22 (alist []) w55) (br (decide (i24 = (5 : Int))) (callV Tryz.prog (94 : Nat) [Value.pointer (some a)] w20 fun v56 w57 => isK IntKind.i64 v56 fun i58 => stC w57 { block := n2, off := (8 : Nat) : Addr } [Value.int IntKind.i64 i58] fun w59 => u22 (alist []) w59) (br (decide (i24 = (6 : Int))) (callV Tryz.prog (78 : Nat) [Value.pointer (some a), Value.int IntKind.i64 (16 : Int)] w20 fun v60 w61 => isK IntKind.i64 v60 fun i62 => stC w61 { block := n2, off := (1 : Nat) : Addr } [Value.int IntKind.u16 (IntKind.wrap IntKind.u16 i62)] fun w63 => callV Tryz.prog (93 : Nat) [Value.pointer (some a), Value.int IntKind.i64 (32 : Int), Value.int IntKind.i64 (-1 : Int)] w63 fun v64 w65 => rd (gd (List.length (Array.toList (Value.cells v64)) == (3 : Nat))) fun _x => stC w65 { block := n2, off := (14 : Nat) : Addr } (cellsOf true v64) fun w66 => callV Tryz.prog (93 : Nat) [Value.pointer (some a), Value.int IntKind.i64 (32 : Int), Value.int IntKind.i64 (-1 : Int)] w66 fun v67 w68 => rd (gd (List.length (Array.toList (Value.cells v67)) == (3 : Nat))) fun _x => stC w68 { block := n2, off := (17 : Nat) : Addr } (cellsOf true v67) fun w69 => u22 (alist []) w69) (br (decide (i24 = (7 : Int))) (callV Tryz.prog (78 : Nat) [Value.pointer (some a), Value.int IntKind.i64 (16 : Int)] w20 fun v70 w71 => isK IntKind.i64 v70 fun i72 => stC w71 { block := n2, off := (7 : Nat) : Addr } [Value.int IntKind.u16 (IntKind.wrap IntKind.u16 i72)] fun w73 => callV Tryz.prog (94 : Nat) [Value.pointer (some a)] w73 fun v74 w75 => isK IntKind.i64 v74 fun i76 => stC w75 { block := n2, off := (8 : Nat) : Addr } [Value.int IntKind.i64 i76] fun w77 => u22 (alist []) w77) (br (decide (i24 = (8 : Int))) (callV Tryz.prog (78 : Nat) [Value.pointer (some a), Value.int IntKind.i64 (16 : Int)] w20 fun v78 w79 => isK IntKind.i64 v78 fun i80 => stC w79 { block := n2, off := (7 : Nat) : Addr } [Value.int IntKind.u16 (IntKind.wrap IntKind.u16 i80)] fun w81 => callV Tryz.prog (78 : Nat) [Value.pointer (some a), Value.int IntKind.i64 (4 : Int)] w81 fun v82 w83 => isK IntKind.i64 v82 fun i84 => br (decide ((1 : Int) ≤ i84)) (callV Tryz.prog (79 : Nat) [Value.pointer (some a), Value.bool (decide (i84 ≤ (10 : Int)))] w83 fun v85 w86 => stC w86 { block := n2, off := (13 : Nat) : Addr } [Value.int IntKind.i64 i84] fun w87 => u22 (alist []) w87) (callV Tryz.prog (79 : Nat) [Value.pointer (some a), Value.bool false] w83 fun v88 w89 => stC w89 { block := n2, off := (13 : Nat) : Addr } [Value.int IntKind.i64 i84] fun w90 => u22 (alist []) w90)) (br (decide (i24 = (9 : Int))) (callV Tryz.prog (78 : Nat) [Value.pointer (some a), Value.int IntKind.i64 (32 : Int)] w20 fun v91 w92 => isK IntKind.i64 v91 fun i93 => stC w92 { block := n2, off := (20 : Nat) : Addr } [Value.int IntKind.u32 (IntKind.wrap IntKind.u32 i93)] fun w94 => callV Tryz.prog (78 : Nat) [Value.pointer (some a), Value.int IntKind.i64 (32 : Int)] w94 fun v95 w96 => isK IntKind.i64 v95 fun i97 => stC w96 { block := n2, off := (21 : Nat) : Addr } [Value.int IntKind.u32 (IntKind.wrap IntKind.u32 i97)] fun w98 => callV Tryz.prog (78 : Nat) [Value.pointer (some a), Value.int IntKind.i64 (10 : Int)] w98 fun v99 w100 => isK IntKind.i64 v99 fun i101 => loopC (alist [((6 : Nat), Value.int IntKind.i64 (0 : Int))]) w100 fun u102 u103 => ∀ (u104 : Nat → Value) (w105 : World), u102 (alist [((6 : Nat), u104 (6 : Nat))]) w105 → isK IntKind.i64 (u104 (6 : Nat)) fun i107 => br (decide (i107 < i101)) (rd (World.cell? w105 (Addr.add a (1 : Nat))) fun v108 => isK IntKind.i64 v108 fun i109 => br (decide (i109 = (0 : Int))) (callV Tryz.prog (78 : Nat) [Value.pointer (some a), Value.int IntKind.i64 (8 : Int)] w105 fun v110 w111 => isK IntKind.i64 v110 fun i112 => rd (World.cell? w111 { block := n2, off := (22 : Nat) : Addr }) fun v113 => isSl v113 fun o114 n115 n116 => runs Tryz.prog (Instr.buildSlice (39 : Nat) (1 : Nat) #[((0 : Nat), Value.int IntKind.u8 (IntKind.wrap IntKind.u8 i112))]) w111 fun v117 w118 => isSl v117 fun o119 n120 n121 => runs Tryz.prog (Builtin.append_ #[(39 : Nat), (39 : Nat)] (39 : Nat) #[Value.slice o114 n115 n116, Value.slice o119 n120 n121]) w118 fun v122 w123 => isSl v122 fun o124 n125 n126 => stC w123 { block := n2, off := (22 : Nat) : Addr } [Value.slice o124 n125 n126] fun w127 => isK IntKind.i64 (u104 (6 : Nat)) fun i128 => again u102 u103 (alist [((6 : Nat), Value.int IntKind.i64 (IntKind.wrap IntKind.i64 (i128 + (1 : Int))))]) w127 (alist [((6 : Nat), u104 (6 : Nat))]) w105) (u22 (alist []) w105)) (u22 (alist []) w105)) (u22 (alist []) w20)))))))) fun u129 => ∀ (u130 : Nat → Value) (w131 : World), u129 (alist []) w131 → rd (cellsAt w131 { block := n2, off := (0 : Nat) : Addr } (23 : Nat)) fun l133 => rd (gd (List.length l133 == (23 : Nat))) fun _x => stC w131 { block := n0, off := (0 : Nat) : Addr } l133 fun w134 => rd (cellsAt w134 { block := n0, off := (0 : Nat) : Addr } (23 : Nat)) fun l135 => R (Value.agg (List.toArray l135)) w134) :
 callV Tryz.prog 80 [Value.pointer (some a)] w R :=
 vc_of hm ⟨fun n => match n with | 4 => true | 38 => true | _ => false, fun _ => .done, fun n => match n with | 4 => [] | 38 => [] | 34 => [6] | _ => []⟩ Tryz.func80 ent80 (by kernel_rfl) h
theorem vc67 (a : ByteArray) (w : World) (R : Value → World → Prop)
 (h : callV Tryz.prog (77 : Nat) [Value.string a] w fun v0 w1 => isStr v0 fun x2 => allocC w1 (Obj.cells #[Value.string x2, Value.int IntKind.i64 (0 : Int)] (178 : Nat)) fun n3 w4 => callV Tryz.prog (78 : Nat) [Value.pointer (some { block := n3, off := (0 : Nat) : Addr }), Value.int IntKind.i64 (5 : Int)] w4 fun v5 w6 => isK IntKind.i64 v5 fun i7 => callV Tryz.prog (79 : Nat) [Value.pointer (some { block := n3, off := (0 : Nat) : Addr }), Value.bool (decide (i7 ≤ (16 : Int)))] w6 fun v8 w9 => runs Tryz.prog (Instr.buildSlice (45 : Nat) (0 : Nat) #[]) w9 fun v10 w11 => isSl v10 fun o12 n13 n14 => cutC (fun u15 => loopC (alist [((6 : Nat), Value.slice o12 n13 n14)]) w11 fun u16 u17 => ∀ (u18 : Nat → Value) (w19 : World), u16 (alist [((6 : Nat), u18 (6 : Nat))]) w19 → isSl (u18 (6 : Nat)) fun o21 n22 n23 => br (decide ((↑n22 : Int) < i7)) (rd (World.cell? w19 { block := n3, off := (1 : Nat) : Addr }) fun v24 => isK IntKind.i64 v24 fun i25 => br (decide (i25 = (0 : Int))) (callV Tryz.prog (80 : Nat) [Value.pointer (some { block := n3, off := (0 : Nat) : Addr })] w19 fun v26 w27 => allocC w27 (Obj.cells #[Value.int IntKind.i64 (0 : Int), Value.int IntKind.u16 (0 : Int), Value.int IntKind.u16 (0 : Int), Value.int IntKind.u8 (0 : Int), Value.int IntKind.i8 (0 : Int), Value.int IntKind.i8 (0 : Int), Value.int IntKind.i64 (0 : Int), Value.int IntKind.u16 (0 : Int), Value.int IntKind.i64 (0 : Int), Value.int IntKind.i64 (0 : Int), Value.int IntKind.i64 (0 : Int), Value.int IntKind.i64 (0 : Int), Value.int IntKind.i64 (0 : Int), Value.int IntKind.i64 (0 : Int), Value.int IntKind.i64 (0 : Int), Value.int IntKind.i64 (0 : Int), Value.int IntKind.i64 (0 : Int), Value.int IntKind.i64 (0 : Int), Value.int IntKind.i64 (0 : Int), Value.int IntKind.i64 (0 : Int), Value.int IntKind.u32 (0 : Int), Value.int IntKind.u32 (0 : Int), Value.slice none (0 : Nat) (0 : Nat)] (41 : Nat)) fun n28 w29 => rd (gd (List.length (Array.toList (Value.cells v26)) == (23 : Nat))) fun _x => stC w29 { block := n28, off := (0 : Nat) : Addr } (cellsOf true v26) fun w30 => isSl (u18 (6 : Nat)) fun o31 n32 n33 => rd (cellsAt w30 { block := n28, off := (0 : Nat) : Addr } (23 : Nat)) fun l34 => runs Tryz.prog (Instr.buildSlice (45 : Nat) (1 : Nat) #[((0 : Nat), Value.agg (List.toArray l34))]) w30 fun v35 w36 => isSl v35 fun o37 n38 n39 => runs Tryz.prog (Builtin.append_ #[(45 : Nat), (45 : Nat)] (45 : Nat) #[Value.slice o31 n32 n33, Value.slice o37 n38 n39]) w36 fun v40 w41 => isSl v40 fun o42 n43 n44 => again u16 u17 (alist [((6 : Nat), Value.slice o42 n43 n44)]) w41 (alist [((6 : Nat), u18 (6 : Nat))]) w19) (u15 (alist [((6 : Nat), u18 (6 : Nat))]) w19)) (u15 (alist [((6 : Nat), u18 (6 : Nat))]) w19)) fun u45 => ∀ (u46 : Nat → Value) (w47 : World), u45 (alist [((6 : Nat), u46 (6 : Nat))]) w47 → rd (World.cell? w47 { block := n3, off := (0 : Nat) : Addr }) fun v49 => isStr v49 fun x50 => callV Tryz.prog (81 : Nat) [Value.string x50] w47 fun v51 w52 => isB v51 fun t53 => br t53 (callV Tryz.prog (79 : Nat) [Value.pointer (some { block := n3, off := (0 : Nat) : Addr }), Value.bool (decide ((↑(ByteArray.size a) : Int) ≤ (1024 : Int)))] w52 fun v54 w55 => rd (World.cell? w55 { block := n3, off := (1 : Nat) : Addr }) fun v56 => isK IntKind.i64 v56 fun i57 => br (!decide (i57 = (0 : Int))) (rd (World.cell? (World.drew w55) { block := n3, off := (1 : Nat) : Addr }) fun v58 => isK IntKind.i64 v58 fun i59 => R (Value.tuple #[Value.slice none (0 : Nat) (0 : Nat), Value.int IntKind.i64 i59]) (World.drew w55)) (isSl (u46 (6 : Nat)) fun o60 n61 n62 => R (Value.tuple #[Value.slice o60 n61 n62, Value.int IntKind.i64 (0 : Int)]) w55)) (callV Tryz.prog (79 : Nat) [Value.pointer (some { block := n3, off := (0 : Nat) : Addr }), Value.bool false] w52 fun v63 w64 => rd (World.cell? w64 { block := n3, off := (1 : Nat) : Addr }) fun v65 => isK IntKind.i64 v65 fun i66 => br (!decide (i66 = (0 : Int))) (rd (World.cell? (World.drew w64) { block := n3, off := (1 : Nat) : Addr }) fun v67 => isK IntKind.i64 v67 fun i68 => R (Value.tuple #[Value.slice none (0 : Nat) (0 : Nat), Value.int IntKind.i64 i68]) (World.drew w64)) (isSl (u46 (6 : Nat)) fun o69 n70 n71 => R (Value.tuple #[Value.slice o69 n70 n71, Value.int IntKind.i64 (0 : Int)]) w64))) :
 callV Tryz.prog 67 [Value.string a] w R :=
 vc_of hm ⟨fun n => match n with | 8 => true | _ => false, fun n => match n with | 11 => .take 0 (.take 1 (.take 2 (.take 3 (.take 4 (.take 5 (.done)))))) | _ => .done, fun n => match n with | 8 => [6] | 5 => [6] | _ => []⟩ Tryz.func67 ent67 (by kernel_rfl) h
end Go.Proofs.YtipikchkbmgloaaGreatDoor
namespace Go.Proofs.YtipikchkbmgloaaGreatDoor
set_option linter.unusedSimpArgs false
set_option linter.unusedVariables false
open Go Go.RowKit VC
variable {w : World} {R : Nat} {s : RS}
def prM (s : RS) : Msg × RS := ((rdFields (IntKind.i64.wrap (rdW 4 s).1) (rdW 4 s).2).1, rdF (known (blank (IntKind.i64.wrap (rdW 4 s).1))) (rdFields (IntKind.i64.wrap (rdW 4 s).1) (rdW 4 s).2).2)
theorem rdB_stop {s : RS} {n : Nat} {acc : List Int} (h : s.e ≠ 0) : rdB n s acc = (acc, s) := by
 cases n with
 | zero => rfl
 | succ n => rw [rdB, if_neg h]
theorem rdB_e0 (n : Nat) (s : RS) (acc : List Int) (h : (rdB n s acc).2.e = 0) : s.e = 0 := by
 by_cases e : s.e = 0
 ·exact e
 ·rw [rdB_stop e] at h; exact h
def MsO (w0 w : World) (R O : Nat) (k : Int) (s1 : RS) (w' : World) : Prop :=
 ∃ m q c, w'.heap[O]? = some (.cells (msgC m q c).toArray 41 (0, 0)) ∧ RefAt w' R (rdF (known (blank k)) (rdFields k s1).2) ∧ ((rdF (known (blank k)) (rdFields k s1).2).e = 0 → m = (rdFields k s1).1) ∧
  w'.ownsRow w0.heap.size 5 1 (.slice q m.bytes.length c) m.bytes.length (m.bytes.map (Value.int .u8)) ∧ (∀ y ∈ m.bytes, 0 ≤ y ∧ y < 256) ∧ Fm (fun i => i = R ∨ w0.heap.size < i) w w'
theorem own_nil (w : World) (base : Nat) : w.ownsRow base 5 1 (.slice none ([] : List Int).length 0) ([] : List Int).length (([] : List Int).map (Value.int .u8)) := ⟨rfl, .inl ⟨rfl, rfl⟩⟩
set_option maxRecDepth 20000 in
set_option maxHeartbeats 8000000 in
theorem message36_c (h : RefAt w R s) (he0 : s.e = 0) : callV Tryz.prog 80 [.pointer (some ⟨R, 0, none⟩)] w fun v w' =>
  ∃ m q c, v = .agg (msgC m q c).toArray ∧ RefAt w' R (prM s).2 ∧ ((prM s).2.e = 0 → m = (prM s).1) ∧ w'.ownsRow w.heap.size 5 1 (.slice q m.bytes.length c) m.bytes.length (m.bytes.map (Value.int .u8)) ∧ (∀ y ∈ m.bytes, 0 ≤ y ∧ y < 256) ∧ Fm (fun i => i = R) w w' := by
 obtain ⟨rem0, hR0, -⟩ := id h
 have hRl := lt_of_blk hR0
 refine vc80 ⟨R, 0, none⟩ w _ ?_
 refine allocC_of fun w1 hb1 hs1 hf1 => allocC_of fun w3 hb3 hs3 hf3 => ?_
 obtain ⟨A, hA⟩ : ∃ A, A = w.heap.size := ⟨_, rfl⟩
 obtain ⟨O, hO⟩ : ∃ O, O = w1.heap.size := ⟨_, rfl⟩
 have hA3 := hf3.keep hb1 id
 change w3.heap[w.heap.size]? = some (.cells (msgC (blank 0) none 0).toArray 41 (0, 0)) at hA3
 rw [← hA] at hA3 ⊢
 rw [← hO] at hb3 ⊢
 refine stC_all hb3 rfl (by intro v hv; exact msgC_one (m := blank 0) (q := none) (cq := 0) v hv) fun w4 hb4 hf4 => ?_
 change w4.heap[O]? = some (.cells (msgC (blank 0) none 0).toArray 41 (0, 0)) at hb4
 have h4 : RefAt w4 R s := ((h.keep hf1 id).keep hf3 id).keep hf4 (by omega)
 have hA4 := hf4.keep hA3 (by omega)
 have hF4 : Fm (fun i => i = R) w w4 := (hf1.trans hf3).none.trans' hf4 (by rintro i hi rfl; omega)
 have hRO : R ≠ O := by omega
 have hs4 := hf4.size
 refine (number34_c (k := 4) (by omega) h4).mono ?_
 rintro _ w6 ⟨k, rfl, hkr, hkx, h6, hf6⟩
 simp only [vq, eqV, nilV]
 obtain ⟨s1, hs1'⟩ : ∃ s1, s1 = (rdW 4 s).2 := ⟨_, rfl⟩
 have hk := hkx he0
 have hwk : IntKind.i64.wrap k = k := w64 (by omega)
 have hpr : prM s = ((rdFields k s1).1, rdF (known (blank k)) (rdFields k s1).2) := by unfold prM; rw [← hk, hwk, hs1']
 rw [← hs1'] at h6
 rw [hpr]
 have hb6 := hf6.keep hb4 (by omega)
 refine stC_one hb6 (by simp [msgC]) rfl fun w8 hb8 hf8 => ?_
 change w8.heap[O]? = some (.cells (msgC (blank k) none 0).toArray 41 (0, 0)) at hb8
 have h8 := h6.keep hf8 hRO
 have hA8 := hf8.keep (hf6.keep hA4 (by omega)) (by omega)
 have hF8 : Fm (fun i => i = R) w w8 := (hF4.trans hf6).trans' hf8 (by rintro i hi rfl; omega)
 refine ⟨fun _ w' => RefAt w' R (rdF (known (blank k)) s1) ∧ Fm (fun i => i = R) w8 w', ?_, ?_⟩
 ·have go : ∀ ok : Bool, ok = known (blank k) → callV Tryz.prog 79 [.pointer (some ⟨R, 0, none⟩), .bool ok] w8 fun _ w' => RefAt w' R (rdF (known (blank k)) s1) ∧ Fm (fun i => i = R) w8 w' := by
   intro ok hok
   refine (must35_c (fun _ => hok) h8).mono ?_
   rintro _ w' ⟨-, h1, h2⟩
   exact ⟨h1, h2⟩
  have hkn : known (blank k) = (decide (1 ≤ k) && decide (k ≤ 9)) := rfl
  refine rd_of (v := .int .i64 k) (cellOf hb8 rfl) ?_
  simp only [vq, eqV, nilV]
  refine br_dec (fun h1 => ?_) (fun h1 => go false (by rw [hkn, decide_eq_false h1]; rfl))
  refine rd_of (v := .int .i64 k) (cellOf hb8 rfl) ?_
  simp only [vq, eqV, nilV]
  exact go _ (by rw [hkn, decide_eq_true h1]; rfl)
 rintro - w20 ⟨h20, hf20⟩
 have hb20 := hf20.keep hb8 (by omega)
 have hA20 := hf20.keep hA8 (by omega)
 have hs20 := hf20.size
 have hF20 := hF8.trans hf20
 refine ⟨fun _ w' => MsO w w20 R O k s1 w', ?_, ?_⟩
 ·refine rd_of (v := .int .i64 k) (cellOf hb20 rfl) ?_
  simp only [vq, eqV, nilV]
  -- of a kind that is known
  have kn : 1 ≤ k → k ≤ 9 → rdF (known (blank k)) s1 = s1 ∧ ∀ x : RS, rdF (known (blank k)) x = x := fun a b => by
   have : known (blank k) = true := known_iff.2 ⟨a, b⟩
   rw [this]; exact ⟨rdF_true _, rdF_true⟩
  have plain : ∀ {w' : World} {m : Msg} {r : Msg × RS}, 1 ≤ k → k ≤ 9 → rdFields k s1 = r → m.bytes = [] → w'.heap[O]? = some (.cells (msgC m none 0).toArray 41 (0, 0)) → RefAt w' R r.2 → (r.2.e = 0 → m = r.1) → Fm (fun i => i = R ∨ w.heap.size < i) w20 w' → MsO w w20 R O k s1 w' := by
   rintro w' m r a b rfl hb ho hr hm hf
   refine ⟨m, none, 0, ho, ?_, ?_, by rw [hb]; exact own_nil _ _, by rw [hb]; simp, hf⟩
   ·rw [(kn a b).2]; exact hr
   ·rw [(kn a b).2]; exact hm
  have nO : ∀ {w1 w' : World}, Fm (fun i => i = R) w1 w' → Fm (fun i => i = R ∨ w.heap.size < i) w1 w' := fun f => f.mono fun i _ e => .inl e
  have nX : ∀ {w1 w' : World}, Fm (fun i => i = O) w1 w' → Fm (fun i => i = R ∨ w.heap.size < i) w1 w' := fun f => f.mono fun i _ e => .inr (by omega)
  have kO : ∀ {w w' : World} {o : Obj}, Fm (fun i => i = R) w w' → w.heap[O]? = some o → w'.heap[O]? = some o := fun f h => f.keep h (by omega)
  have kR : ∀ {w w' : World} {s : RS}, Fm (fun i => i = O) w w' → RefAt w R s → RefAt w' R s := fun f h => h.keep f hRO
  refine br_dec (fun k2 => ?_) (fun k2 => ?_)
  ·subst k2
   have h20' := h20
   rw [(kn (by omega) (by omega)).1] at h20'
   obtain ⟨⟨a, t1⟩, ha⟩ : ∃ r, rdW 16 s1 = r := ⟨_, rfl⟩
   obtain ⟨⟨b, t2⟩, hb⟩ : ∃ r, rdW 2 t1 = r := ⟨_, rfl⟩
   obtain ⟨⟨x, t3⟩, hx⟩ : ∃ r, rdS 8 t2 = r := ⟨_, rfl⟩
   obtain ⟨⟨y, t4⟩, hy⟩ : ∃ r, rdS 8 t3 = r := ⟨_, rfl⟩
   obtain ⟨⟨t, t5⟩, ht⟩ : ∃ r, rdW 3 t4 = r := ⟨_, rfl⟩
   have hr : rdFields 2 s1 = ({ blank 2 with cq := IntKind.u16.wrap a, cb := IntKind.u8.wrap b, cdx := IntKind.i8.wrap x, cdy := IntKind.i8.wrap y, ct := IntKind.i64.wrap (IntKind.i64.wrap t + 1) }, t5) := by
    show rdCmd s1 = _
    unfold rdCmd
    simp only [ha, hb, hx, hy, ht]
   have b1 := fun e => (good_W 16).back s1 (by rw [ha]; exact e)
   have b2 := fun e => (good_W 2).back t1 (by rw [hb]; exact e)
   have b3 := fun e => (good_S 8).back t2 (by rw [hx]; exact e)
   have b4 := fun e => (good_S 8).back t3 (by rw [hy]; exact e)
   have b5 := fun e => (good_W 3).back t4 (by rw [ht]; exact e)
   refine (number34_c (k := 16) (by omega) h20').mono ?_
   rintro _ w26 ⟨a', rfl, _, va, r1, f1⟩
   rw [ha] at va r1
   simp only [vq, eqV, nilV]
   refine stC_one (kO f1 hb20) (by simp [msgC]) rfl fun w28 o2 g2 => ?_
   refine (number34_c (k := 2) (by omega) (kR g2 r1)).mono ?_
   rintro _ w30 ⟨b', rfl, _, vb, r2, f2⟩
   rw [hb] at vb r2
   simp only [vq, eqV, nilV]
   refine stC_one (kO f2 o2) (by simp [msgC]) rfl fun w32 o3 g3 => ?_
   refine (signed56_c (k := 8) (.inl rfl) (kR g3 r2)).mono ?_
   rintro _ w34 ⟨x', rfl, _, vx, r3, f3⟩
   rw [hx] at vx r3
   simp only [vq, eqV, nilV]
   refine stC_one (kO f3 o3) (by simp [msgC]) rfl fun w36 o4 g4 => ?_
   refine (signed56_c (k := 8) (.inl rfl) (kR g4 r3)).mono ?_
   rintro _ w38 ⟨y', rfl, _, vy, r4, f4⟩
   rw [hy] at vy r4
   simp only [vq, eqV, nilV]
   refine stC_one (kO f4 o4) (by simp [msgC]) rfl fun w40 o5 g5 => ?_
   refine (number34_c (k := 3) (by omega) (kR g5 r4)).mono ?_
   rintro _ w42 ⟨t', rfl, ht', vt, r5, f5⟩
   rw [ht] at vt r5
   simp only [vq, eqV, nilV]
   refine stC_one (kO f5 o5) (by simp [msgC]) rfl fun w44 o6 g6 => ?_
   refine plain (m := { blank 2 with cq := IntKind.u16.wrap a', cb := IntKind.u8.wrap b', cdx := IntKind.i8.wrap x', cdy := IntKind.i8.wrap y', ct := IntKind.i64.wrap (t' + 1) }) (by omega) (by omega) hr rfl o6 (kR g6 r5) (fun e => ?_) (((((((((nO f1).trans (nX g2)).trans (nO f2)).trans (nX g3)).trans (nO f3)).trans (nX g4)).trans (nO f4)).trans (nX g5)).trans (nO f5) |>.trans (nX g6))
   have e4 := b5 e
   have e3 := b4 e4
   have e2 := b3 e3
   have e1 := b2 e2
   have ht2 : IntKind.i64.wrap t' = t' := w64 (by omega)
   dsimp only at va vb vx vy vt
   have vt' := vt e4
   subst vt'
   rw [va (b1 e1), vb e1, vx e2, vy e3, ht2]
  refine br_dec (fun k3 => ?_) (fun k3 => ?_)
  ·subst k3
   have h20' := h20
   rw [(kn (by omega) (by omega)).1] at h20'
   obtain ⟨⟨a, t1⟩, ha⟩ : ∃ r, rdW 16 s1 = r := ⟨_, rfl⟩
   obtain ⟨⟨b, t2⟩, hb⟩ : ∃ r, rdW 1 t1 = r := ⟨_, rfl⟩
   obtain ⟨⟨x, t3⟩, hx⟩ : ∃ r, stepV 18 65536 t2 = r := ⟨_, rfl⟩
   obtain ⟨⟨y, t4⟩, hy⟩ : ∃ r, stepV 18 65536 t3 = r := ⟨_, rfl⟩
   obtain ⟨⟨z, t5⟩, hz⟩ : ∃ r, stepV 18 65536 t4 = r := ⟨_, rfl⟩
   have hr : rdFields 3 s1 = ({ blank 3 with prov := IntKind.u16.wrap a, shot := IntKind.i64.wrap b, d0 := x, d1 := y, d2 := z }, t5) := by
    show rdFire s1 = _
    unfold rdFire
    simp only [ha, hb, hx, hy, hz]
   have b1 := fun e => (good_W 16).back s1 (by rw [ha]; exact e)
   have b2 := fun e => (good_W 1).back t1 (by rw [hb]; exact e)
   have b3 := fun e => (good_V 18 65536).back t2 (by rw [hx]; exact e)
   have b4 := fun e => (good_V 18 65536).back t3 (by rw [hy]; exact e)
   have b5 := fun e => (good_V 18 65536).back t4 (by rw [hz]; exact e)
   refine (number34_c (k := 16) (by omega) h20').mono ?_
   rintro _ w26 ⟨a', rfl, _, va, r1, f1⟩
   rw [ha] at va r1
   simp only [vq, eqV, nilV]
   refine stC_one (kO f1 hb20) (by simp [msgC]) rfl fun w28 o2 g2 => ?_
   refine (number34_c (k := 1) (by omega) (kR g2 r1)).mono ?_
   rintro _ w30 ⟨b', rfl, hb', vb, r2, f2⟩
   rw [hb] at vb r2
   simp only [vq, eqV, nilV]
   refine stC_one (kO f2 o2) (by simp [msgC]) rfl fun w32 o3 g3 => ?_
   refine (vec57_c (k := 18) (d := 65536) (by omega) (by unfold I64; omega) (kR g3 r2)).mono ?_
   rintro _ w34 ⟨x', y', z', rfl, vx, vy, vz, r3, f3⟩
   rw [hx] at vx vy vz r3
   dsimp only at vx vy vz r3
   rw [hy] at vy vz r3
   dsimp only at vy vz r3
   rw [hz] at vz r3
   dsimp only at vz r3
   refine rd_of (v := ()) rfl ?_
   refine stC_at (vs := [.int .i64 x', .int .i64 y', .int .i64 z']) (kO f3 o3) (by simp [msgC]) (by intro v hv; simp at hv; rcases hv with rfl | rfl | rfl <;> rfl) fun w36 o4 g4 => ?_
   have hb2 : IntKind.i64.wrap b' = b' := w64 (by omega)
   refine plain (m := { blank 3 with prov := IntKind.u16.wrap a', shot := b', d0 := x', d1 := y', d2 := z' }) (by omega) (by omega) hr rfl o4 (kR g4 r3) (fun e => ?_) ((((((nO f1).trans (nX g2)).trans (nO f2)).trans (nX g3)).trans (nO f3)).trans (nX g4))
   have e4 := b5 e
   have e3 := b4 e4
   have e2 := b3 e3
   have e1 := b2 e2
   dsimp only at va vb
   have vb' := vb e1
   subst vb'
   rw [va (b1 e1), hb2, vx e2, vy e3, vz e4]
  refine br_dec (fun k5 => ?_) (fun k5 => ?_)
  ·subst k5
   have h20' := h20
   rw [(kn (by omega) (by omega)).1] at h20'
   have hr : rdFields 5 s1 = ({ blank 5 with id := (rdId s1).1 }, (rdId s1).2) := rfl
   refine (id58_c h20').mono ?_
   rintro _ w26 ⟨a', rfl, _, va, r1, f1⟩
   simp only [vq, eqV, nilV]
   refine stC_one (kO f1 hb20) (by simp [msgC]) rfl fun w28 o2 g2 => ?_
   refine plain (m := { blank 5 with id := a' }) (by omega) (by omega) hr rfl o2 (kR g2 r1) (fun e => ?_) ((nO f1).trans (nX g2))
   rw [va (good_Id.back _ e)]
  refine br_dec (fun k6 => ?_) (fun k6 => ?_)
  ·subst k6
   have h20' := h20
   rw [(kn (by omega) (by omega)).1] at h20'
   obtain ⟨⟨a, t1⟩, ha⟩ : ∃ r, rdW 16 s1 = r := ⟨_, rfl⟩
   obtain ⟨⟨x, t3⟩, hx⟩ : ∃ r, stepV 32 (-1) t1 = r := ⟨_, rfl⟩
   obtain ⟨⟨y, t4⟩, hy⟩ : ∃ r, stepV 32 (-1) t3 = r := ⟨_, rfl⟩
   obtain ⟨⟨z, t5⟩, hz⟩ : ∃ r, stepV 32 (-1) t4 = r := ⟨_, rfl⟩
   obtain ⟨⟨x2, t6⟩, hx2⟩ : ∃ r, stepV 32 (-1) t5 = r := ⟨_, rfl⟩
   obtain ⟨⟨y2, t7⟩, hy2⟩ : ∃ r, stepV 32 (-1) t6 = r := ⟨_, rfl⟩
   obtain ⟨⟨z2, t8⟩, hz2⟩ : ∃ r, stepV 32 (-1) t7 = r := ⟨_, rfl⟩
   have hr : rdFields 6 s1 = ({ blank 6 with seq := IntKind.u16.wrap a, p0 := x, p1 := y, p2 := z, v0 := x2, v1 := y2, v2 := z2 }, t8) := by
    show rdMoved s1 = _
    unfold rdMoved
    simp only [ha, hx, hy, hz, hx2, hy2, hz2]
   have gv := good_V 32 (-1)
   have b1 := fun e => (good_W 16).back s1 (by rw [ha]; exact e)
   have b3 := fun e => gv.back t1 (by rw [hx]; exact e)
   have b4 := fun e => gv.back t3 (by rw [hy]; exact e)
   have b5 := fun e => gv.back t4 (by rw [hz]; exact e)
   have b6 := fun e => gv.back t5 (by rw [hx2]; exact e)
   have b7 := fun e => gv.back t6 (by rw [hy2]; exact e)
   have b8 := fun e => gv.back t7 (by rw [hz2]; exact e)
   refine (number34_c (k := 16) (by omega) h20').mono ?_
   rintro _ w26 ⟨a', rfl, _, va, r1, f1⟩
   rw [ha] at va r1
   simp only [vq, eqV, nilV]
   refine stC_one (kO f1 hb20) (by simp [msgC]) rfl fun w28 o2 g2 => ?_
   refine (vec57_c (k := 32) (d := -1) (by omega) (by unfold I64; omega) (kR g2 r1)).mono ?_
   rintro _ w34 ⟨x', y', z', rfl, vx, vy, vz, r3, f3⟩
   rw [hx] at vx vy vz r3
   dsimp only at vx vy vz r3
   rw [hy] at vy vz r3
   dsimp only at vy vz r3
   rw [hz] at vz r3
   dsimp only at vz r3
   refine rd_of (v := ()) rfl ?_
   refine stC_at (vs := [.int .i64 x', .int .i64 y', .int .i64 z']) (kO f3 o2) (by simp [msgC]) (by intro v hv; simp at hv; rcases hv with rfl | rfl | rfl <;> rfl) fun w36 o4 g4 => ?_
   refine (vec57_c (k := 32) (d := -1) (by omega) (by unfold I64; omega) (kR g4 r3)).mono ?_
   rintro _ w38 ⟨x'', y'', z'', rfl, ux, uy, uz, r4, f4⟩
   rw [hx2] at ux uy uz r4
   dsimp only at ux uy uz r4
   rw [hy2] at uy uz r4
   dsimp only at uy uz r4
   rw [hz2] at uz r4
   dsimp only at uz r4
   refine rd_of (v := ()) rfl ?_
   refine stC_at (vs := [.int .i64 x'', .int .i64 y'', .int .i64 z'']) (kO f4 o4) (by simp [msgC]) (by intro v hv; simp at hv; rcases hv with rfl | rfl | rfl <;> rfl) fun w40 o5 g5 => ?_
   refine plain (m := { blank 6 with seq := IntKind.u16.wrap a', p0 := x', p1 := y', p2 := z', v0 := x'', v1 := y'', v2 := z'' }) (by omega) (by omega) hr rfl o5 (kR g5 r4) (fun e => ?_) ((((((nO f1).trans (nX g2)).trans (nO f3)).trans (nX g4)).trans (nO f4)).trans (nX g5))
   have e7 := b8 e
   have e6 := b7 e7
   have e5 := b6 e6
   have e4 := b5 e5
   have e3 := b4 e4
   have e1 := b3 e3
   rw [va (b1 e1), vx e1, vy e3, vz e4, ux e5, uy e6, uz e7]
  refine br_dec (fun k7 => ?_) (fun k7 => ?_)
  ·subst k7
   have h20' := h20
   rw [(kn (by omega) (by omega)).1] at h20'
   obtain ⟨⟨a, t1⟩, ha⟩ : ∃ r, rdW 16 s1 = r := ⟨_, rfl⟩
   have hr : rdFields 7 s1 = ({ blank 7 with prov := IntKind.u16.wrap a, id := (rdId t1).1 }, (rdId t1).2) := by
    show rdBound s1 = _
    unfold rdBound
    simp only [ha]
   have b1 := fun e => (good_W 16).back s1 (by rw [ha]; exact e)
   refine (number34_c (k := 16) (by omega) h20').mono ?_
   rintro _ w26 ⟨a', rfl, _, va, r1, f1⟩
   rw [ha] at va r1
   simp only [vq, eqV, nilV]
   refine stC_one (kO f1 hb20) (by simp [msgC]) rfl fun w28 o2 g2 => ?_
   refine (id58_c (kR g2 r1)).mono ?_
   rintro _ w30 ⟨b', rfl, _, vb, r2, f2⟩
   simp only [vq, eqV, nilV]
   refine stC_one (kO f2 o2) (by simp [msgC]) rfl fun w32 o3 g3 => ?_
   refine plain (m := { blank 7 with prov := IntKind.u16.wrap a', id := b' }) (by omega) (by omega) hr rfl o3 (kR g3 r2) (fun e => ?_) ((((nO f1).trans (nX g2)).trans (nO f2)).trans (nX g3))
   have e1 := good_Id.back _ e
   rw [va (b1 e1), vb e1]
  refine br_dec (fun k8 => ?_) (fun k8 => ?_)
  ·subst k8
   have h20' := h20
   rw [(kn (by omega) (by omega)).1] at h20'
   obtain ⟨⟨a, t1⟩, ha⟩ : ∃ r, rdW 16 s1 = r := ⟨_, rfl⟩
   obtain ⟨⟨b, t2⟩, hb⟩ : ∃ r, rdW 4 t1 = r := ⟨_, rfl⟩
   have hr : rdFields 8 s1 = ({ blank 8 with prov := IntKind.u16.wrap a, why := IntKind.i64.wrap b }, rdF (decide (1 ≤ IntKind.i64.wrap b) && decide (IntKind.i64.wrap b ≤ 10)) t2) := by
    show rdDenied s1 = _
    unfold rdDenied
    simp only [ha, hb]
   have b1 := fun e => (good_W 16).back s1 (by rw [ha]; exact e)
   have b2 := fun e => (good_W 4).back t1 (by rw [hb]; exact e)
   refine (number34_c (k := 16) (by omega) h20').mono ?_
   rintro _ w26 ⟨a', rfl, _, va, r1, f1⟩
   rw [ha] at va r1
   simp only [vq, eqV, nilV]
   refine stC_one (kO f1 hb20) (by simp [msgC]) rfl fun w28 o2 g2 => ?_
   refine (number34_c (k := 4) (by omega) (kR g2 r1)).mono ?_
   rintro _ w30 ⟨b', rfl, hb', vb, r2, f2⟩
   rw [hb] at vb r2
   simp only [vq, eqV, nilV]
   have hbw : IntKind.i64.wrap b' = b' := w64 (by omega)
   have go : ∀ ok : Bool, ok = (decide (1 ≤ b') && decide (b' ≤ 10)) → callV Tryz.prog 79 [.pointer (some ⟨R, 0, none⟩), .bool ok] w30 fun _ w96 => stC w96 ⟨O, 13, none⟩ [.int .i64 b'] fun w97 => MsO w w20 R O 8 s1 w97 := by
    intro ok hok
    refine (must35_c (ok' := decide (1 ≤ IntKind.i64.wrap b) && decide (IntKind.i64.wrap b ≤ 10)) (fun e => ?_) r2).mono ?_
    ·have vb' : b' = b := vb (b2 e)
     subst vb'
     rw [hok, hbw]
    rintro _ w96 ⟨-, r3, f3⟩
    refine stC_one (kO f3 (kO f2 o2)) (by simp [msgC]) rfl fun w97 o4 g4 => ?_
    refine plain (m := { blank 8 with prov := IntKind.u16.wrap a', why := b' }) (by omega) (by omega) hr rfl o4 (kR g4 r3) (fun e => ?_) (((((nO f1).trans (nX g2)).trans (nO f2)).trans (nO f3)).trans (nX g4))
    have e2 := (rdF_inv e).2.1
    have e1 := b2 e2
    have vb' : b' = b := vb e1
    subst vb'
    rw [va (b1 e1), hbw]
   refine br_dec (fun h1 => go _ (by rw [decide_eq_true h1]; rfl)) (fun h1 => go false (by rw [decide_eq_false h1]; rfl))
  refine br_dec (fun k9 => ?_) (fun k9 => ?_)
  ·subst k9
   have h20' := h20
   rw [(kn (by omega) (by omega)).1] at h20'
   obtain ⟨⟨a, t1⟩, ha⟩ : ∃ r, rdW 32 s1 = r := ⟨_, rfl⟩
   obtain ⟨⟨b, t2⟩, hb⟩ : ∃ r, rdW 32 t1 = r := ⟨_, rfl⟩
   obtain ⟨⟨nn, t3⟩, hn⟩ : ∃ r, rdW 10 t2 = r := ⟨_, rfl⟩
   have hr : rdFields 9 s1 = ({ blank 9 with tick := IntKind.u32.wrap a, bse := IntKind.u32.wrap b, bytes := (rdB nn.toNat t3 []).1 }, (rdB nn.toNat t3 []).2) := by
    show rdSnap s1 = _
    unfold rdSnap
    simp only [ha, hb, hn]
   have b1 := fun e => (good_W 32).back s1 (by rw [ha]; exact e)
   have b2 := fun e => (good_W 32).back t1 (by rw [hb]; exact e)
   have b3 := fun e => (good_W 10).back t2 (by rw [hn]; exact e)
   refine (number34_c (k := 32) (by omega) h20').mono ?_
   rintro _ w26 ⟨a', rfl, _, va, r1, f1⟩
   rw [ha] at va r1
   simp only [vq, eqV, nilV]
   refine stC_one (kO f1 hb20) (by simp [msgC]) rfl fun w28 o2 g2 => ?_
   refine (number34_c (k := 32) (by omega) (kR g2 r1)).mono ?_
   rintro _ w30 ⟨b', rfl, _, vb, r2, f2⟩
   rw [hb] at vb r2
   simp only [vq, eqV, nilV]
   refine stC_one (kO f2 o2) (by simp [msgC]) rfl fun w32 o3 g3 => ?_
   refine (number34_c (k := 10) (by omega) (kR g3 r2)).mono ?_
   rintro _ w112 ⟨n', rfl, hn', vn, r3, f3⟩
   rw [hn] at vn r3
   simp only [vq, eqV, nilV]
   obtain ⟨n0, hn0⟩ : ∃ n0 : Nat, n' = n0 := ⟨n'.toNat, by omega⟩
   subst hn0
   have hn1024 : (n0 : Int) < 1024 := hn'.2
   have hnn : rdB nn.toNat t3 [] = rdB n0 t3 [] := by
    by_cases e : t3.e = 0
    ·have hv : (n0 : Int) = nn := vn (b3 e)
     rw [← hv, Int.toNat_natCast]
    ·rw [rdB_stop e, rdB_stop e]
   rw [hnn] at hr
   have hF112 : Fm (fun i => i = R ∨ w.heap.size < i) w20 w112 := ((((nO f1).trans (nX g2)).trans (nO f2)).trans (nX g3)).trans (nO f3)
   have hs112 := hF112.size
   refine ⟨fun u w' => ∃ (i : Nat) (s' : RS) (acc : List Int) (q : Option Addr) (cq : Nat), u 6 = .int .i64 i ∧ RefAt w' R s' ∧ w'.heap[O]? = some (.cells (msgC { blank 9 with tick := IntKind.u32.wrap a', bse := IntKind.u32.wrap b', bytes := acc } q cq).toArray 41 (0, 0)) ∧
    w'.ownsRow w.heap.size 5 1 (.slice q acc.length cq) acc.length (acc.map (Value.int .u8)) ∧ (∀ y ∈ acc, 0 ≤ y ∧ y < 256) ∧ Fm (fun i => i = R ∨ w.heap.size < i) w20 w' ∧ acc.length = i ∧ i ≤ n0 ∧ rdB (n0 - i) s' acc = rdB n0 t3 [], fun u _ => n0 - (intOf (u 6)).toNat, ?_, ?_⟩
   ·exact ⟨0, t3, [], none, 0, rfl, r3, kO f3 o3, own_nil _ _, by simp, hF112, rfl, by omega, rfl⟩
   rintro u w113 ⟨i, s', acc, q, cq, h6', hr', ho, hown, hrng, hF, hai, hin, hgo⟩
   change u 6 = _ at h6'
   simp only [h6', vq, eqV, nilV]
   obtain ⟨remx, hRx, hRx0, hRx1, hRx2⟩ := id hr'
   have done : rdB n0 t3 [] = (acc, s') → MsO w w20 R O 9 s1 w113 := by
    intro hd
    rw [hd] at hr
    refine ⟨_, q, cq, ho, ?_, ?_, hown, hrng, hF⟩
    ·rw [(kn (by omega) (by omega)).2, hr]; exact hr'
    ·rw [(kn (by omega) (by omega)).2, hr]
     intro e
     have e3 : t3.e = 0 := rdB_e0 n0 t3 [] (by rw [hd]; exact e)
     have e2 := b3 e3
     have e1 := b2 e2
     dsimp only at va vb
     rw [va (b1 e1), vb e1]
   refine br_dec (fun hlt => ?_) (fun hlt => done (by rw [← hgo, show n0 - i = 0 by omega]; rfl))
   simp only [addr_add, Nat.zero_add]
   refine rd_of (v := .int .i64 s'.e) (cellOf hRx rfl) ?_
   simp only [vq, eqV, nilV]
   refine br_dec (fun he => ?_) (fun he => done (by rw [← hgo]; exact rdB_stop he))
   obtain ⟨z, hz⟩ : ∃ z, n0 - i = z + 1 := ⟨n0 - i - 1, by omega⟩
   rw [hz] at hgo
   rw [rdB, if_pos he] at hgo
   refine (number34_c (k := 8) (by omega) hr').mono ?_
   rintro _ w117 ⟨y, rfl, hy, vy, r5, f5⟩
   have vy' := vy he
   rw [← vy'] at hgo
   simp only [vq, eqV, nilV]
   have hyw : IntKind.u8.wrap y = y := by simp only [IntKind.wrap, IntKind.bits, IntKind.signed]; simp; omega
   rw [hyw] at hgo ⊢
   have ho5 := kO f5 ho
   refine rd_of (v := .slice q acc.length cq) (cellOf ho5 rfl) ?_
   simp only [vq, eqV, nilV]
   have kslR : ∀ {w' : World} {c : Array Value} {t b : Nat}, w'.heap[b]? = some (.cells c t (0, 0)) → t ≠ 5 → w'.ownsRow w.heap.size 5 1 (.slice q acc.length cq) acc.length (acc.map (Value.int .u8)) → ¬ (Value.slice q acc.length cq).ownBlock = some b := by
    intro w' c t b hb ht ho e
    obtain ⟨_, cur, hc⟩ := own_block ho e
    rw [hb] at hc; cases hc; exact ht rfl
   have hown5 := f5.owns hown fun b hb e => kslR hRx (by decide) hown (by rw [← e]; exact hb)
   have hs117 := f5.size
   have hs113 := hF.size
   have hOl := lt_of_blk ho5
   refine append_1 (by rw [row39]) row5 rfl rfl hown5 (by omega) (by simp only [maxLen]; omega) (by omega) fun v w122 hv hf => ?_
   have hv2 : w122.ownsRow w.heap.size 5 1 v (acc ++ [y]).length ((acc ++ [y]).map (Value.int .u8)) := by rw [List.length_append, List.map_append]; exact hv
   obtain ⟨q4, c4, rfl, -⟩ := own_read hv2
   simp only [vq, eqV, nilV]
   obtain ⟨remy, hRy, hRy3⟩ := id r5
   have ho122 := hf.keep ho5 (kslR ho5 (by decide) hown5)
   refine stC_one ho122 (by simp [msgC]) rfl fun w127 o6 g6 => ?_
   change w127.heap[O]? = some (.cells (msgC { blank 9 with tick := IntKind.u32.wrap a', bse := IntKind.u32.wrap b', bytes := acc ++ [y] } q4 c4).toArray 41 (0, 0)) at o6
   refine ⟨⟨i + 1, (rdW 8 s').2, acc ++ [y], q4, c4, ?_, (r5.keep hf (kslR hRy (by decide) hown5)).keep g6 hRO, o6, g6.owns hv2 fun b hb e => ?_, ?_, ?_, by simp [hai], by omega, ?_⟩, ?_⟩
   ·show Value.int _ _ = _
    rw [w64 (by omega)]; rfl
   ·obtain ⟨_, cur, hc⟩ := own_block hv2 hb
    rw [e, ho122] at hc; cases hc
   ·intro x hx
    rcases List.mem_append.1 hx with h | h
    ·exact hrng x h
    ·simp at h; subst h; exact ⟨hy.1, hy.2⟩
   ·refine ((hF.trans (nO f5)).trans' hf fun b hb e => ?_).trans (nX g6)
    have h1 := (own_block hown5 e).1
    have h2 := kslR (f5.keep (hF.keep hA20 (by omega)) (by omega)) (by decide) hown5
    have h3 : b ≠ A := fun e' => h2 (by rw [← e']; exact e)
    exact .inr (by omega)
   ·rw [show n0 - (i + 1) = z by omega]; exact hgo
   ·show n0 - (IntKind.i64.wrap ((i : Int) + 1)).toNat < n0 - ((i : Nat) : Int).toNat
    rw [w64 (by omega)]; omega
  ·have hr : rdFields k s1 = (blank k, s1) := by
    unfold rdFields
    rw [if_neg k2, if_neg k3, if_neg k6, if_neg k7, if_neg k5, if_neg k8, if_neg k9]
   refine ⟨blank k, none, 0, hb20, ?_, fun _ => by rw [hr], own_nil _ _, by simp [blank], Fm.refl _ _⟩
   rw [hr]; exact h20
 ·rintro - w143 ⟨m, q, c, ho, hr, hm, hown, hrng, hf⟩
  have hOA : O ≠ A := by omega
  have hA143 := hf.keep hA20 (by omega)
  refine rd_of (v := msgC m q c) (cells_all ho rfl) ?_
  refine rd_of (v := ()) rfl ?_
  refine stC_all hA143 rfl msgC_one fun w146 hb146 hf146 => ?_
  refine rd_of (v := msgC m q c) (cells_all hb146 rfl) ?_
  refine ⟨m, q, c, rfl, hr.keep hf146 (by omega), hm, (by
   rw [hA]
   refine hf146.owns hown fun i hi e => ?_
   obtain ⟨_, cur, hc⟩ := own_block hown hi
   rw [e, hA143] at hc; cases hc), hrng, ?_⟩
  ·exact (hF20.trans' hf (by rintro i hi (e | e); exact e; omega)).trans' hf146 (by rintro i hi rfl; omega)
end Go.Proofs.YtipikchkbmgloaaGreatDoor
namespace Go.Proofs.YtipikchkbmgloaaGreatDoor
set_option linter.unusedSimpArgs false
set_option linter.unusedVariables false
open Go Go.RowKit VC
variable {w : World} {R : Nat} {s : RS}
theorem own_base {w : World} {base base' : Nat} {e : TypeId} {size n : Nat} {v : Value} {xs : List Value} (h : w.ownsRow base e size v n xs) (hb : base' ≤ base) : w.ownsRow base' e size v n xs := by
 obtain ⟨h1, h2⟩ := h
 refine ⟨h1, ?_⟩
 rcases h2 with h2 | ⟨g, cap, cur, hv, hg, hr⟩
 ·exact .inl h2
 ·exact .inr ⟨g, cap, cur, hv, Nat.le_trans hb hg, hr⟩
set_option maxRecDepth 20000 in
theorem rest37_c {bs : List Int} (hb : ∀ b ∈ bs, Bit b) (hl : bs.length ≤ 1000000) : callV Tryz.prog 81 [.string (txt bs)] w fun v w' => v = .bool (restOk bs) ∧ Fm none' w w' := by
 refine vc81 _ w _ ?_
 refine ⟨fun u w' => ∃ j : Nat, j ≤ bs.length ∧ u 3 = .int .i64 (j : Int) ∧ (∀ b ∈ bs.take j, b = 0) ∧ w' = w, fun u _ => bs.length - (intOf (u 3)).toNat, ⟨0, by omega, rfl, by simp, rfl⟩, ?_⟩
 rintro u w5 ⟨j, hj, h3', hz, rfl⟩
 change u 3 = .int .i64 (j : Int) at h3'
 simp only [h3', vq, eqV, nilV, txt_size]
 refine br_dec (fun hjn => ?_) (fun hjn => ?_)
 ·obtain ⟨b, hb'⟩ : ∃ b, bs[j]? = some b := ⟨bs[j]'(by omega), by simp⟩
  refine index_str (ys := bs.map (48 + ·)) (j := j) (by rw [row9]) (txt_r hb) (by rw [List.getElem?_map, hb']; rfl) ?_
  simp only [vq, eqV, nilV]
  refine br_ndec (fun he => ?_) (fun he => ?_)
  ·refine ⟨?_, Fm.refl _ _⟩
   have : (bs.all fun b => decide (b = 0)) = false := by
    rw [List.all_eq_false]
    exact ⟨b, List.mem_of_getElem? hb', by simp; omega⟩
   unfold restOk; rw [this]; rfl
  ·rw [w64 (by omega)]
   refine ⟨⟨j + 1, by omega, ?_, ?_, rfl⟩, ?_⟩
   ·show Value.int .i64 _ = _
    congr 1
   ·rw [List.take_add_one, hb']
    intro x hx
    rcases List.mem_append.1 hx with hx | hx
    ·exact hz x hx
    ·simp at hx; omega
   ·show bs.length - ((j : Int) + 1).toNat < bs.length - ((j : Nat) : Int).toNat; omega
 ·have : j = bs.length := by omega
  subst this
  rw [List.take_length] at hz
  have : (bs.all fun b => decide (b = 0)) = true := by
   rw [List.all_eq_true]
   intro b hb; simp [hz b hb]
  refine ⟨?_, Fm.refl _ _⟩
  unfold restOk; rw [this, Bool.true_and]
  congr 1
  rw [decide_eq_decide]; omega
theorem build_noneS {P : Program} {w : World} {t e : TypeId} {k : K} {b size : Nat} {z : Value} {KK : Value → World → Prop} (ht : (row P t).k = .slice e) (he : row P e = ⟨k, size, b, some z⟩)
  (kk : ∀ s w', w'.ownsRow w.heap.size e size s 0 [] → w.heap.size < w'.heap.size → Fm none' w w' → KK s w') : runs P (Instr.buildSlice t 0 #[]) w KK := by
 obtain ⟨i, hi, hz, hsz, hbt⟩ := info_of_row he
 have hu := slice_of_row ht
 have hr : Array.range 0 = #[] := rfl
 have hbuild : (Instr.buildSlice t 0 #[]).run P w = .ok (.slice (some ⟨w.heap.size, 0, none⟩) 0 0) (w.alloc (.cells #[] e)) := by
  simp [Instr.buildSlice, run_underlying hu, run_size hi, hsz, run_zero hi hz, Instr.fill, newRow, hr]
 refine ⟨_, _, hbuild, kk _ _ ⟨by simp, .inr ⟨_, 0, #[], rfl, Nat.le_refl _, by simpa using heap_alloc_new w (.cells #[] e), Nat.le_refl _, by simp [maxLen], by simp, by simp⟩⟩ (by simp) (Fm.alloc w _)⟩
set_option maxRecDepth 20000 in
set_option maxHeartbeats 4000000 in
theorem decode19_c {ys : List Int} (hy : ∀ y ∈ ys, 0 ≤ y ∧ y < 256) (hl : ys.length ≤ 10000) :
  callV Tryz.prog 67 [.string (strOfNums ys)] w fun v w' => ∃ sv, v = .tuple #[sv, .int .i64 (decodeM ys).2] ∧ OwnMsgs w' w.heap.size sv (decodeM ys).1 ∧ Fm none' w w' := by
 refine vc67 _ w _ ?_
 refine (of33_c hy (by omega)).mono ?_
 rintro _ w1 ⟨rfl, hf1⟩
 simp only [vq, eqV, nilV]
 refine allocC_of fun w4 hb4 hs4 hf4 => ?_
 obtain ⟨A, hA⟩ : ∃ A, A = w1.heap.size := ⟨_, rfl⟩
 rw [← hA] at hb4 ⊢
 have hws := hf1.size
 have hbl : (byteBits ys).length ≤ 1000000 := by rw [byteBits_length]; omega
 have hbit := byteBits_bit ys
 have hr4 : RefAt w4 A ⟨byteBits ys, 0⟩ := ⟨byteBits ys, hb4, fun _ => rfl, hbit, hbl⟩
 have hF4 : Fm none' w w4 := hf1.trans hf4
 refine (number34_c (k := 5) (by omega) hr4).mono ?_
 rintro _ w6 ⟨n, rfl, hnr, hnv, hr6, hf6⟩
 simp only [vq, eqV, nilV]
 have hnv := hnv rfl
 obtain ⟨⟨n', s1⟩, hn⟩ : ∃ r, rdW 5 (⟨byteBits ys, 0⟩ : RS) = r := ⟨_, rfl⟩
 rw [hn] at hnv hr6
 have hnv : n = n' := hnv
 subst hnv
 have hF6 : Fm none' w w6 := hF4.trans' hf6 (by rintro i hi e; omega)
 refine (must35_c (ok' := decide (n ≤ 16)) (fun _ => rfl) hr6).mono ?_
 rintro _ w9 ⟨-, hr9, hf9⟩
 have hF9 : Fm none' w w9 := hF6.trans' hf9 (by rintro i hi e; omega)
 obtain ⟨s2, hs2⟩ : ∃ s2, s2 = rdF (decide (n ≤ 16)) s1 := ⟨_, rfl⟩
 have hs2' : rdF (decide (n ≤ 16)) (n, s1).2 = s2 := hs2.symm
 rw [hs2'] at hr9
 obtain ⟨n0, hn0⟩ : ∃ n0 : Nat, n = n0 := ⟨n.toNat, by omega⟩
 subst hn0
 have hn32 : (n0 : Int) < 32 := hnr.2
 have hdec : decodeM ys = (let r := decGo n0 s2 []
   let s := rdF (restOk r.2.rem && decide (ys.length ≤ 1024)) r.2
   if s.e = 0 then (r.1, 0) else ([], s.e)) := by
  unfold decodeM
  rw [hn, hs2]
  rfl
 refine build_noneS (by rw [row45]) row41 fun s w11 hs11 hlt11 hf11 => ?_
 have hs11' := hs11
 obtain ⟨ps, cs, rfl, -, -⟩ := own_readS hs11'
 simp only [vq, eqV, nilV]
 have hs9 := hF9.size
 have hs11z := hf11.size
 have hF11 := hF9.trans hf11
 have hr11 := hr9.keep hf11 id
 refine ⟨fun u w' => ∃ (s' : RS) (acc acc' : List Msg) (sv : Value), u 6 = sv ∧ RefAt w' A s' ∧ OwnMsgs w' w.heap.size sv acc' ∧ (s'.e = 0 → acc' = acc) ∧ Fm none' w w' ∧ decGo n0 s2 [] = (acc, s'), ?_, ?_⟩
 ·refine ⟨fun u w' => ∃ (s' : RS) (acc acc' : List Msg) (sv : Value), u 6 = sv ∧ RefAt w' A s' ∧ OwnMsgs w' w.heap.size sv acc' ∧ (s'.e = 0 → acc' = acc) ∧ acc'.length = acc.length ∧ Fm none' w w' ∧ acc.length ≤ n0 ∧ decGo (n0 - acc.length) s' acc = decGo n0 s2 [], fun u _ => n0 - lenOf (u 6), ?_, ?_⟩
  ·exact ⟨s2, [], [], _, rfl, hr11, ⟨[], rfl, own_base hs11 hs9, by simp⟩, fun _ => rfl, rfl, hF11, by simp, rfl⟩
  rintro u w16 ⟨s', acc, acc', sv, h6, hr, hown, heq, hlen', hF, hlen, hgo⟩
  change u 6 = sv at h6
  have hown' := hown
  obtain ⟨qs, hq1, hq2, hq3⟩ := hown
  obtain ⟨ps, cs, rfl, -, -⟩ := own_readS hq2
  simp only [h6, vq, eqV, nilV]
  obtain ⟨rem, hR, hR0, hRb, hRl⟩ := id hr
  have hRlt := lt_of_blk hR
  have hws16 := hF.size
  have done : decGo n0 s2 [] = (acc, s') → ∃ (s' : RS) (acc acc' : List Msg) (sv : Value), alist [(6, Value.slice ps acc'.length cs)] 6 = sv ∧ RefAt w16 A s' ∧ OwnMsgs w16 w.heap.size sv acc' ∧ (s'.e = 0 → acc' = acc) ∧ Fm none' w w16 ∧ decGo n0 s2 [] = (acc, s') := fun hd =>
   ⟨s', acc, acc', _, rfl, hr, hown', heq, hF, hd⟩
  have done' : decGo n0 s2 [] = (acc, s') → ∃ (s' : RS) (acc : List Msg) (acc'' : List Msg) (sv : Value), alist [(6, Value.slice ps acc'.length cs)] 6 = sv ∧ RefAt w16 A s' ∧ OwnMsgs w16 w.heap.size sv acc'' ∧ (s'.e = 0 → acc'' = acc) ∧ Fm none' w w16 ∧ decGo n0 s2 [] = (acc, s') := fun hd =>
   ⟨s', acc, acc', _, rfl, hr, hown', heq, hF, hd⟩
  refine br_dec (fun hjn => ?_) (fun hjn => ?_)
  ·refine rd_of (v := .int .i64 s'.e) (cellOf hR rfl) ?_
   simp only [vq, eqV, nilV]
   refine br_dec (fun he => ?_) (fun he => ?_)
   ·obtain ⟨m0, hm0⟩ : ∃ m0, n0 - acc.length = m0 + 1 := ⟨n0 - acc.length - 1, by omega⟩
    rw [hm0] at hgo
    rw [decGo, if_pos he] at hgo
    change decGo m0 (prM s').2 (acc ++ [(prM s').1]) = _ at hgo
    refine (message36_c hr he).mono ?_
    rintro _ w27 ⟨m, q, c, rfl, hr27, hm27, hown27, hrng27, hf27⟩
    refine allocC_of fun w29 hb29 hs29 hf29 => ?_
    refine rd_of (v := ()) rfl ?_
    obtain ⟨B, hB⟩ : ∃ B, B = w27.heap.size := ⟨_, rfl⟩
    rw [← hB] at hb29 ⊢
    refine stC_all (vs := msgC m q c) hb29 rfl msgC_one fun w30 hb30 hf30 => ?_
    refine rd_of (v := msgC m q c) (cells_all hb30 rfl) ?_
    have hs27 := hf27.size
    have hs30 := hf30.size
    have hf30' : Fm (fun i => i = A) w16 w30 := (hf27.trans hf29.none).trans' hf30 (by rintro i hi e; omega)
    have hF30 : Fm none' w w30 := hF.trans' hf30' (by rintro i hi e; omega)
    have hr30 : RefAt w30 A (prM s').2 := (hr27.keep hf29 id).keep hf30 (by omega)
    obtain ⟨remr, hRr, -⟩ := id hr30
    have hO30 : OwnMsgs w30 w.heap.size (.slice ps acc'.length cs) acc' := hown'.keep hf30' (by
     rintro i c t hc _ ht e
     rw [e, hR] at hc; cases hc; rcases ht with h | h <;> cases h)
    have hown30 : w30.ownsRow w.heap.size 5 1 (.slice q m.bytes.length c) m.bytes.length (m.bytes.map (Value.int .u8)) := own_base ((hf29.owns hown27 fun _ _ y => y) |> fun h => hf30.owns h (fun i hi e => by
     obtain ⟨_, cur, hc⟩ := own_block h hi
     rw [e, hb29] at hc; cases hc)) hws16
    obtain ⟨qs', hl', ho', hb'⟩ := hO30
    refine append_S (by rw [row45]) row41 rfl (by omega) (by omega) rfl msgC_one ho' (by omega) (by simp only [maxLen]; omega) (by omega) fun v44 w44 hv44 hf44 hblk => ?_
    obtain ⟨p44, c44, rfl, -⟩ := own_readS hv44
    simp only [vq, eqV, nilV]
    have hlen1 : (acc' ++ [m]).length = acc'.length + 1 := by simp
    have hlen2 : (acc ++ [(prM s').1]).length = acc.length + 1 := by simp
    have hsl : ∀ i, (Value.slice ps acc'.length cs).ownBlock = some i → ∃ cur, w30.heap[i]? = some (.cells cur 41 (0, 0)) := fun i hi => (own_block ho' hi).2
    have hF44 : Fm none' w w44 := hF30.trans' hf44 (fun i hi e => by have := (own_block ho' e).1; omega)
    refine ⟨⟨(prM s').2, acc ++ [(prM s').1], acc' ++ [m], _, rfl, ?_, ⟨qs' ++ [(q, c)], by simp [hl'], ?_, ?_⟩, ?_, by omega, hF44, by omega, ?_⟩, ?_⟩
    ·refine hr30.keep hf44 (fun e => ?_)
     obtain ⟨cur, hc⟩ := hsl _ e
     rw [hRr] at hc; cases hc
    ·rw [hlen1, List.zip_append hl'.symm, List.flatMap_append]
     have : [(m, (q, c))].flatMap (fun x : Msg × Option Addr × Nat => msgC x.1 x.2.1 x.2.2) = msgC m q c := by simp
     show w44.ownsRow _ _ _ _ _ (_ ++ [(m, (q, c))].flatMap _)
     rw [this]
     exact hv44
    ·intro j m' q' hj hq
     have keep5 : ∀ {q : Option Addr × Nat} {m : Msg}, w30.ownsRow w.heap.size 5 1 (.slice q.1 m.bytes.length q.2) m.bytes.length (m.bytes.map (Value.int .u8)) → w44.ownsRow w.heap.size 5 1 (.slice q.1 m.bytes.length q.2) m.bytes.length (m.bytes.map (Value.int .u8)) := fun h => hf44.owns h fun i hi e => by
      obtain ⟨cur, hc⟩ := hsl _ e
      obtain ⟨_, cur', hc'⟩ := own_block h hi
      rw [hc'] at hc; cases hc
     by_cases hjl : j < acc'.length
     ·rw [List.getElem?_append_left hjl] at hj
      rw [List.getElem?_append_left (by omega)] at hq
      exact keep5 (hb' j m' q' hj hq)
     ·have hj1 : j = acc'.length := by
       have := (List.getElem?_eq_some_iff.1 hj).1
       simp at this; omega
      subst hj1
      rw [List.getElem?_append_right (by omega)] at hj
      rw [List.getElem?_append_right (by omega)] at hq
      simp at hj
      simp [hl'] at hq
      subst hj hq
      exact keep5 (q := (q, c)) hown30
    ·intro e
     rw [heq he, hm27 e]
    ·rw [hlen2, show n0 - (acc.length + 1) = m0 by omega]
     exact hgo
    ·show n0 - (acc'.length + 1) < n0 - acc'.length; omega
   ·have hd : decGo n0 s2 [] = (acc, s') := by
     rw [← hgo]
     cases hz : n0 - acc.length with
     | zero => rfl
     | succ z => rw [decGo, if_neg he]
    exact done' hd
  ·have hd : decGo n0 s2 [] = (acc, s') := by
    rw [← hgo, show n0 - acc.length = 0 by omega]; rfl
   exact done' hd
 ·rintro u w47 ⟨s', acc, acc', sv, h6, hr, hown, heq, hF, hgo⟩
  change u 6 = sv at h6
  obtain ⟨ps, cs, rfl, -⟩ := hown.at
  simp only [h6, vq, eqV, nilV, strOfNums_size]
  obtain ⟨rem, hR, hR0, hRb, hRl⟩ := id hr
  have hRlt := lt_of_blk hR
  refine rd_of (v := .string (txt rem)) (cellOf hR rfl) ?_
  simp only [vq, eqV, nilV]
  refine (rest37_c hRb hRl).mono ?_
  rintro _ w52 ⟨rfl, hf52⟩
  simp only [vq, eqV, nilV]
  have hdec' := hdec
  rw [hgo] at hdec'
  simp only [] at hdec'
  have go : ∀ ok : Bool, (s'.e = 0 → ok = (restOk s'.rem && decide (ys.length ≤ 1024))) → callV Tryz.prog 79 [.pointer (some ⟨A, 0, none⟩), .bool ok] w52 fun _ w55 => rd (w55.cell? ⟨A, 1, none⟩) fun v56 => isK .i64 v56 fun i57 =>
    br (!decide (i57 = 0)) (rd (w55.drew.cell? ⟨A, 1, none⟩) fun v58 => isK .i64 v58 fun i59 => ∃ sv, Value.tuple #[.slice none 0 0, .int .i64 i59] = .tuple #[sv, .int .i64 (decodeM ys).2] ∧ OwnMsgs w55.drew w.heap.size sv (decodeM ys).1 ∧ Fm none' w w55.drew)
     (∃ sv, Value.tuple #[.slice ps acc'.length cs, .int .i64 0] = .tuple #[sv, .int .i64 (decodeM ys).2] ∧ OwnMsgs w55 w.heap.size sv (decodeM ys).1 ∧ Fm none' w w55) := by
   intro ok hok
   refine (must35_c (ok' := restOk s'.rem && decide (ys.length ≤ 1024)) hok (hr.keep hf52 id)).mono ?_
   rintro _ w55 ⟨-, hr55, hf55⟩
   obtain ⟨rem5, h55, -⟩ := id hr55
   have hF55 : Fm none' w w55 := (hF.trans hf52).trans' hf55 (by rintro i hi e; omega)
   refine rd_of (v := .int .i64 (rdF (restOk s'.rem && decide (ys.length ≤ 1024)) s').e) (cellOf h55 rfl) ?_
   simp only [vq, eqV, nilV]
   refine br_ndec (fun he => ?_) (fun he => ?_)
   ·refine rd_of (v := .int .i64 (rdF (restOk s'.rem && decide (ys.length ≤ 1024)) s').e) (cellOf (w := w55.drew) (b := A) h55 rfl) ?_
    simp only [vq, eqV, nilV]
    rw [if_neg he] at hdec'
    rw [hdec']
    exact ⟨_, rfl, OwnMsgs.nil _ _, hF55.trans (Fm.drew w55)⟩
   ·rw [if_pos he] at hdec'
    rw [hdec']
    have e0 : s'.e = 0 := (rdF_inv he).2.1
    have := heq e0
    subst this
    refine ⟨_, rfl, (hown.keep hf52 fun _ _ _ _ _ _ => id).keep hf55 ?_, hF55⟩
    rintro i c t hc _ ht e
    rw [e, hf52.keep hR id] at hc; cases hc; rcases ht with h | h <;> cases h
  have hrr : s'.e = 0 → restOk rem = restOk s'.rem := fun e => by rw [hR0 e]
  cases hro : restOk rem with
  | true => exact go _ fun e => by rw [← hrr e, hro, Bool.true_and, decide_eq_decide]; omega
  | false => exact go false fun e => by rw [← hrr e, hro]; rfl
end Go.Proofs.YtipikchkbmgloaaGreatDoor
