/- What NetPlays needs, part 7 of 13: E2 E3 Win Del Chan ChW ChU ChV E4 ChP ChK E5 Duo DgB PlW PlC PlO WinR.  Conditions: as each part says. -/
import Derived.Test.YtipikchkbmgloaaGreatDoorNetPlaysA6
namespace Go.Proofs.YtipikchkbmgloaaGreatDoor
set_option linter.unusedSimpArgs false
set_option linter.unusedVariables false
open Go VC
theorem vc24 (a : Addr) (w : World) (R : Value → World → Prop)
 (h : rd (World.cell? w a) fun v0 => isB v0 fun t1 => R (Value.bool t1) w) :
 callV Tryz.prog 24 [Value.pointer (some a)] w R :=
 vc_of hm noHints Tryz.func24 ent24 (by kernel_rfl) h
theorem vc26 (a : Addr) (w : World) (R : Value → World → Prop)
 (h : rd (World.cell? (World.drew w) (Addr.add a (1 : Nat))) fun v0 => isK IntKind.u16 v0 fun i1 => rd (World.cell? (World.drew w) (Addr.add a (2 : Nat))) fun v2 => isK IntKind.u32 v2 fun i3 => R (Value.tuple #[Value.int IntKind.u16 i1, Value.int IntKind.u32 i3]) (World.drew w)) :
 callV Tryz.prog 26 [Value.pointer (some a)] w R :=
 vc_of hm ⟨fun _ => false, fun n => match n with | 1 => .take 0 (.take 1 (.take 2 (.take 3 (.take 4 (.take 5 (.take 6 (.take 7 (.take 8 (.take 9 (.done)))))))))) | _ => .done, fun _ => []⟩ Tryz.func26 ent26 (by kernel_rfl) h
theorem vc31 (a : Addr) (b : Int) (w : World) (R : Value → World → Prop)
 (h : rd (World.cell? w (Addr.add a (1 : Nat))) fun v0 => isK IntKind.u16 v0 fun i1 => callV Tryz.prog (63 : Nat) [Value.int IntKind.u16 b, Value.int IntKind.u16 i1] w fun v2 w3 => isK IntKind.i64 v2 fun i4 => rd (World.cell? w3 a) fun v5 => isB v5 fun t6 => br (!t6) (stC w3 a [Value.bool true] fun w7 => heldC (World.drew w7) fun u8 => (∀ (w9 : World), u8 w9 → Value.pointer (some a) = Value.pointer (some a) ∧ w9 = w9) ∧ (∀ (w11 : World), u8 w11 → Value.pointer (some a) = Value.pointer (some a) ∧ w11 = w11) ∧ (∀ (w13 : World), u8 w13 → Value.pointer (some a) = Value.pointer (some a) ∧ w13 = w13) ∧ (∀ (w15 : World), u8 w15 → Value.pointer (some (Addr.add a (2 : Nat))) = Value.pointer (some (Addr.add a (2 : Nat))) ∧ w15 = w15) ∧ rd (World.cell? (World.drew w7) (Addr.add a (2 : Nat))) fun v17 => (∀ (w18 : World), u8 w18 → rd (World.cell? w18 (Addr.add a (2 : Nat))) fun v20 => v20 = v17 ∧ w18 = w18) ∧ isK IntKind.u32 v17 fun i21 => (∀ (w22 : World), u8 w22 → Value.int IntKind.i64 (64 : Int) = Value.int IntKind.i64 (64 : Int) ∧ w22 = w22) ∧ (∀ (w24 : World), u8 w24 → Value.int IntKind.u32 (IntKind.wrap IntKind.u32 (i21 * (4294967296 : Int))) = Value.int IntKind.u32 (IntKind.wrap IntKind.u32 (i21 * (4294967296 : Int))) ∧ w24 = w24) ∧ (∀ (w26 : World), u8 w26 → Value.int IntKind.i64 (64 : Int) = Value.int IntKind.i64 (64 : Int) ∧ w26 = w26) ∧ (∀ (w28 : World), u8 w28 → Value.int IntKind.i64 (63 : Int) = Value.int IntKind.i64 (63 : Int) ∧ w28 = w28) ∧ (∀ (w30 : World), u8 w30 → Value.int IntKind.u32 (0 : Int) = Value.int IntKind.u32 (0 : Int) ∧ w30 = w30) ∧ (∀ (w32 : World), u8 w32 → Value.int IntKind.u32 (orI IntKind.u32 (IntKind.wrap IntKind.u32 (i21 * (4294967296 : Int))) (0 : Int)) = Value.int IntKind.u32 (orI IntKind.u32 (IntKind.wrap IntKind.u32 (i21 * (4294967296 : Int))) (0 : Int)) ∧ w32 = w32) ∧ stC (World.drew w7) (Addr.add a (2 : Nat)) [Value.int IntKind.u32 (orI IntKind.u32 (IntKind.wrap IntKind.u32 (i21 * (4294967296 : Int))) (0 : Int))] fun w34 => stC w34 (Addr.add a (1 : Nat)) [Value.int IntKind.u16 b] fun w35 => R (Value.bool true) w35) (br (decide ((0 : Int) < i4)) (heldC (World.drew w3) fun u36 => (∀ (w37 : World), u36 w37 → Value.pointer (some a) = Value.pointer (some a) ∧ w37 = w37) ∧ (∀ (w39 : World), u36 w39 → Value.pointer (some a) = Value.pointer (some a) ∧ w39 = w39) ∧ (∀ (w41 : World), u36 w41 → Value.pointer (some a) = Value.pointer (some a) ∧ w41 = w41) ∧ (∀ (w43 : World), u36 w43 → Value.pointer (some (Addr.add a (2 : Nat))) = Value.pointer (some (Addr.add a (2 : Nat))) ∧ w43 = w43) ∧ rd (World.cell? (World.drew w3) (Addr.add a (2 : Nat))) fun v45 => (∀ (w46 : World), u36 w46 → rd (World.cell? w46 (Addr.add a (2 : Nat))) fun v48 => v48 = v45 ∧ w46 = w46) ∧ isK IntKind.u32 v45 fun i49 => (∀ (w50 : World), u36 w50 → Value.int IntKind.i64 i4 = Value.int IntKind.i64 i4 ∧ w50 = w50) ∧ rd (orO (binV BinOp.shl (Value.int IntKind.u32 i49) (Value.int IntKind.i64 i4)) none) fun v52 => (∀ (w53 : World), u36 w53 → rd (orO (binV BinOp.shl (Value.int IntKind.u32 i49) (Value.int IntKind.i64 i4)) none) fun v55 => v55 = v52 ∧ w53 = w53) ∧ isK IntKind.u32 v52 fun i56 => (∀ (w57 : World), u36 w57 → Value.int IntKind.i64 i4 = Value.int IntKind.i64 i4 ∧ w57 = w57) ∧ (∀ (w59 : World), u36 w59 → Value.int IntKind.i64 (IntKind.wrap IntKind.i64 (i4 - (1 : Int))) = Value.int IntKind.i64 (IntKind.wrap IntKind.i64 (i4 - (1 : Int))) ∧ w59 = w59) ∧ rd (orO (binV BinOp.shl (Value.int IntKind.u32 (1 : Int)) (Value.int IntKind.i64 (IntKind.wrap IntKind.i64 (i4 - (1 : Int))))) none) fun v61 => (∀ (w62 : World), u36 w62 → rd (orO (binV BinOp.shl (Value.int IntKind.u32 (1 : Int)) (Value.int IntKind.i64 (IntKind.wrap IntKind.i64 (i4 - (1 : Int))))) none) fun v64 => v64 = v61 ∧ w62 = w62) ∧ isK IntKind.u32 v61 fun i65 => (∀ (w66 : World), u36 w66 → Value.int IntKind.u32 (orI IntKind.u32 i56 i65) = Value.int IntKind.u32 (orI IntKind.u32 i56 i65) ∧ w66 = w66) ∧ stC (World.drew w3) (Addr.add a (2 : Nat)) [Value.int IntKind.u32 (orI IntKind.u32 i56 i65)] fun w68 => stC w68 (Addr.add a (1 : Nat)) [Value.int IntKind.u16 b] fun w69 => R (Value.bool true) w69) (br (decide (i4 = (0 : Int))) (R (Value.bool false) w3) (br (decide (i4 < (-32 : Int))) (R (Value.bool false) w3) (rd (World.cell? w3 (Addr.add a (2 : Nat))) fun v70 => isK IntKind.u32 v70 fun i71 => rd (orO (binV BinOp.shr (Value.int IntKind.u32 i71) (Value.int IntKind.i64 (IntKind.wrap IntKind.i64 (IntKind.wrap IntKind.i64 ((0 : Int) - i4) - (1 : Int))))) none) fun v72 => isK IntKind.u32 v72 fun i73 => br (decide (andI IntKind.u32 i73 (1 : Int) = (1 : Int))) (R (Value.bool false) w3) (heldC (World.drew w3) fun u74 => (∀ (w75 : World), u74 w75 → Value.pointer (some a) = Value.pointer (some a) ∧ w75 = w75) ∧ (∀ (w77 : World), u74 w77 → Value.pointer (some a) = Value.pointer (some a) ∧ w77 = w77) ∧ (∀ (w79 : World), u74 w79 → Value.pointer (some (Addr.add a (2 : Nat))) = Value.pointer (some (Addr.add a (2 : Nat))) ∧ w79 = w79) ∧ rd (World.cell? (World.drew w3) (Addr.add a (2 : Nat))) fun v81 => (∀ (w82 : World), u74 w82 → rd (World.cell? w82 (Addr.add a (2 : Nat))) fun v84 => v84 = v81 ∧ w82 = w82) ∧ isK IntKind.u32 v81 fun i85 => (∀ (w86 : World), u74 w86 → Value.int IntKind.i64 i4 = Value.int IntKind.i64 i4 ∧ w86 = w86) ∧ (∀ (w88 : World), u74 w88 → Value.int IntKind.i64 (IntKind.wrap IntKind.i64 ((0 : Int) - i4)) = Value.int IntKind.i64 (IntKind.wrap IntKind.i64 ((0 : Int) - i4)) ∧ w88 = w88) ∧ (∀ (w90 : World), u74 w90 → Value.int IntKind.i64 (IntKind.wrap IntKind.i64 (IntKind.wrap IntKind.i64 ((0 : Int) - i4) - (1 : Int))) = Value.int IntKind.i64 (IntKind.wrap IntKind.i64 (IntKind.wrap IntKind.i64 ((0 : Int) - i4) - (1 : Int))) ∧ w90 = w90) ∧ rd (orO (binV BinOp.shl (Value.int IntKind.u32 (1 : Int)) (Value.int IntKind.i64 (IntKind.wrap IntKind.i64 (IntKind.wrap IntKind.i64 ((0 : Int) - i4) - (1 : Int))))) none) fun v92 => (∀ (w93 : World), u74 w93 → rd (orO (binV BinOp.shl (Value.int IntKind.u32 (1 : Int)) (Value.int IntKind.i64 (IntKind.wrap IntKind.i64 (IntKind.wrap IntKind.i64 ((0 : Int) - i4) - (1 : Int))))) none) fun v95 => v95 = v92 ∧ w93 = w93) ∧ isK IntKind.u32 v92 fun i96 => stC (World.drew w3) (Addr.add a (2 : Nat)) [Value.int IntKind.u32 (orI IntKind.u32 i85 i96)] fun w97 => R (Value.bool true) w97)))))) :
 callV Tryz.prog 31 [Value.pointer (some a), Value.int IntKind.u16 b] w R :=
 vc_of hm ⟨fun _ => false, fun n => match n with | 6 => .take 0 (.take 1 (.take 2 (.take 3 (.take 4 (.take 5 (.take 6 (.take 7 (.take 8 (.take 9 (.take 10 (.last 11 (.last 12 (.last 13 (.done)))))))))))))) | 9 => .take 0 (.take 1 (.take 2 (.take 3 (.take 4 (.take 5 (.take 6 (.take 7 (.last 8 (.last 9 (.last 10 (.last 11 (.done)))))))))))) | _ => .done, fun _ => []⟩ Tryz.func31 ent31 (by kernel_rfl) h
theorem vc34 (a : Int) (b : Int) (c : Int) (w : World) (R : Value → World → Prop)
 (h : callV Tryz.prog (63 : Nat) [Value.int IntKind.u16 a, Value.int IntKind.u16 c] w fun v0 w1 => isK IntKind.i64 v0 fun i2 => br (decide (i2 < (0 : Int))) (R (Value.bool false) w1) (br (decide ((32 : Int) < i2)) (R (Value.bool false) w1) (br (decide ((0 : Int) < i2)) (rd (orO (binV BinOp.shr (Value.int IntKind.u32 b) (Value.int IntKind.i64 (IntKind.wrap IntKind.i64 (i2 - (1 : Int))))) none) fun v3 => isK IntKind.u32 v3 fun i4 => R (Value.bool (decide (andI IntKind.u32 i4 (1 : Int) = (1 : Int)))) w1) (R (Value.bool true) w1)))) :
 callV Tryz.prog 34 [Value.int IntKind.u16 a, Value.int IntKind.u32 b, Value.int IntKind.u16 c] w R :=
 vc_of hm noHints Tryz.func34 ent34 (by kernel_rfl) h
theorem vc63 (a : Int) (b : Int) (w : World) (R : Value → World → Prop)
 (h : R (Value.int IntKind.i64 (IntKind.wrap IntKind.i64 (IntKind.wrap IntKind.i16 (IntKind.wrap IntKind.u16 (a - b))))) w) :
 callV Tryz.prog 63 [Value.int IntKind.u16 a, Value.int IntKind.u16 b] w R :=
 vc_of hm noHints Tryz.func63 ent63 (by kernel_rfl) h
theorem vc25 (ap : Option Addr) (an : Nat) (ac : Nat) (w : World) (R : Value → World → Prop)
 (h : br (Option.isNone ap) (R (Value.slice none (0 : Nat) (0 : Nat)) w) (runs Tryz.prog (Instr.buildSlice (45 : Nat) (0 : Nat) #[]) w fun v0 w1 => isSl v0 fun o2 n3 n4 => runs Tryz.prog (Builtin.append_ #[(45 : Nat), (45 : Nat)] (45 : Nat) #[Value.slice o2 n3 n4, Value.slice ap an ac]) w1 fun v5 w6 => isSl v5 fun o7 n8 n9 => R (Value.slice o7 n8 n9) w6)) :
 callV Tryz.prog 25 [Value.slice ap an ac] w R :=
 vc_of hm noHints Tryz.func25 ent25 (by kernel_rfl) h
theorem vc5 (w : World) (R : Value → World → Prop)
 (h : allocC w (Obj.cells #[Value.int IntKind.u16 (0 : Int), Value.slice none (0 : Nat) (0 : Nat), Value.slice none (0 : Nat) (0 : Nat), Value.bool false, Value.int IntKind.u16 (0 : Int), Value.int IntKind.u32 (0 : Int), Value.int IntKind.i64 (0 : Int), Value.bool false, Value.int IntKind.u32 (0 : Int)] (70 : Nat)) fun n0 w1 => R (Value.pointer (some { block := n0, off := (0 : Nat) : Addr })) w1) :
 callV Tryz.prog 5 [] w R :=
 vc_of hm noHints Tryz.func5 ent5 (by kernel_rfl) h
theorem vc7 (a : Addr) (b0 : Int) (b1 : Int) (b20 : Int) (b21 : Int) (b22 : Int) (b23 : Int) (b24 : Int) (b3 : Int) (b4 : Int) (b5 : Int) (b60 : Int) (b61 : Int) (b62 : Int) (b7 : Int) (b80 : Int) (b81 : Int) (b82 : Int) (b90 : Int) (b91 : Int) (b92 : Int) (b10 : Int) (b11 : Int) (b12p : Option Addr) (b12n : Nat) (b12c : Nat) (w : World) (R : Value → World → Prop)
 (h : allocC w (Obj.cells #[Value.int IntKind.i64 b0, Value.int IntKind.u16 b1, Value.int IntKind.u16 b20, Value.int IntKind.u8 b21, Value.int IntKind.i8 b22, Value.int IntKind.i8 b23, Value.int IntKind.i64 b24, Value.int IntKind.u16 b3, Value.int IntKind.i64 b4, Value.int IntKind.i64 b5, Value.int IntKind.i64 b60, Value.int IntKind.i64 b61, Value.int IntKind.i64 b62, Value.int IntKind.i64 b7, Value.int IntKind.i64 b80, Value.int IntKind.i64 b81, Value.int IntKind.i64 b82, Value.int IntKind.i64 b90, Value.int IntKind.i64 b91, Value.int IntKind.i64 b92, Value.int IntKind.u32 b10, Value.int IntKind.u32 b11, Value.slice b12p b12n b12c] (41 : Nat)) fun n0 w1 => rd (cellsAt w1 { block := n0, off := (0 : Nat) : Addr } (23 : Nat)) fun l2 => callV Tryz.prog (9 : Nat) [Value.agg (List.toArray l2)] w1 fun v3 w4 => isB v3 fun t5 => br (!t5) (R (Value.int IntKind.i64 (1 : Int)) w4) (rd (World.cell? w4 (Addr.add a (1 : Nat))) fun v6 => isSl v6 fun o7 n8 n9 => br (decide ((↑n8 : Int) = (64 : Int))) (R (Value.int IntKind.i64 (5 : Int)) w4) (rd (World.cell? w4 { block := n0, off := (22 : Nat) : Addr }) fun v10 => isSl v10 fun o11 n12 n13 => callV Tryz.prog (18 : Nat) [Value.slice o11 n12 n13] w4 fun v14 w15 => isSl v14 fun o16 n17 n18 => stC w15 { block := n0, off := (22 : Nat) : Addr } [Value.slice o16 n17 n18] fun w19 => heldC (World.drew w19) fun u20 => (∀ (w21 : World), u20 w21 → Value.pointer (some a) = Value.pointer (some a) ∧ w21 = w21) ∧ (∀ (w23 : World), u20 w23 → Value.pointer (some a) = Value.pointer (some a) ∧ w23 = w23) ∧ (∀ (w25 : World), u20 w25 → Value.pointer (some a) = Value.pointer (some a) ∧ w25 = w25) ∧ (∀ (w27 : World), u20 w27 → Value.pointer (some (Addr.add a (1 : Nat))) = Value.pointer (some (Addr.add a (1 : Nat))) ∧ w27 = w27) ∧ rd (World.cell? (World.drew w19) (Addr.add a (1 : Nat))) fun v29 => (∀ (w30 : World), u20 w30 → rd (World.cell? w30 (Addr.add a (1 : Nat))) fun v32 => v32 = v29 ∧ w30 = w30) ∧ isSl v29 fun o33 n34 n35 => rd (cellsAt (World.drew w19) { block := n0, off := (0 : Nat) : Addr } (23 : Nat)) fun l36 => (∀ (w37 : World), u20 w37 → rd (cellsAt w37 { block := n0, off := (0 : Nat) : Addr } (23 : Nat)) fun l39 => Value.agg (List.toArray l39) = Value.agg (List.toArray l36) ∧ w37 = w37) ∧ rd (gd (List.length l36 == (23 : Nat) && true)) fun _x => (∀ (w40 : World), u20 w40 → rd (gd (List.length l36 == (23 : Nat) && true)) fun _x => Value.agg (List.toArray (l36 ++ [Value.bool false])) = Value.agg (List.toArray (l36 ++ [Value.bool false])) ∧ w40 = w40) ∧ rd (gd (List.length (Array.toList (List.toArray (l36 ++ [Value.bool false]))) == (24 : Nat))) fun _x => allocC (World.drew w19) (Obj.cells (List.toArray (cellsOf true (Value.agg (List.toArray (l36 ++ [Value.bool false]))))) (77 : Nat)) fun n42 w43 => u20 w43 ∧ runs Tryz.prog (Instr.buildSlice (65 : Nat) (1 : Nat) #[((0 : Nat), Value.pointer (some { block := n42, off := (0 : Nat) : Addr }))]) w43 fun v44 w45 => isSl v44 fun o46 n47 n48 => u20 w45 ∧ runs Tryz.prog (Builtin.append_ #[(65 : Nat), (65 : Nat)] (65 : Nat) #[Value.slice o33 n34 n35, Value.slice o46 n47 n48]) w45 fun v49 w50 => isSl v49 fun o51 n52 n53 => u20 w50 ∧ stC w50 (Addr.add a (1 : Nat)) [Value.slice o51 n52 n53] fun w54 => R (Value.int IntKind.i64 (0 : Int)) w54))) :
 callV Tryz.prog 7 [Value.pointer (some a), Value.agg #[Value.int IntKind.i64 b0, Value.int IntKind.u16 b1, Value.int IntKind.u16 b20, Value.int IntKind.u8 b21, Value.int IntKind.i8 b22, Value.int IntKind.i8 b23, Value.int IntKind.i64 b24, Value.int IntKind.u16 b3, Value.int IntKind.i64 b4, Value.int IntKind.i64 b5, Value.int IntKind.i64 b60, Value.int IntKind.i64 b61, Value.int IntKind.i64 b62, Value.int IntKind.i64 b7, Value.int IntKind.i64 b80, Value.int IntKind.i64 b81, Value.int IntKind.i64 b82, Value.int IntKind.i64 b90, Value.int IntKind.i64 b91, Value.int IntKind.i64 b92, Value.int IntKind.u32 b10, Value.int IntKind.u32 b11, Value.slice b12p b12n b12c]] w R :=
 vc_of hm ⟨fun _ => false, fun n => match n with | 6 => .take 0 (.take 1 (.take 2 (.take 3 (.take 4 (.take 5 (.take 6 (.one 7 (.one 8 (.one 9 (.last 10 (.last 11 (.last 12 (.done))))))))))))) | _ => .done, fun _ => []⟩ Tryz.func7 ent7 (by kernel_rfl) h
theorem vc16 (a : Addr) (w : World) (R : Value → World → Prop)
 (h : rd (World.cell? w (Addr.add a (1 : Nat))) fun v0 => isSl v0 fun o1 n2 n3 => R (Value.int IntKind.i64 (↑n2 : Int)) w) :
 callV Tryz.prog 16 [Value.pointer (some a)] w R :=
 vc_of hm noHints Tryz.func16 ent16 (by kernel_rfl) h
theorem vc17 (a : Addr) (w : World) (R : Value → World → Prop)
 (h : rd (World.cell? w (Addr.add a (6 : Nat))) fun v0 => isK IntKind.i64 v0 fun i1 => R (Value.int IntKind.i64 i1) w) :
 callV Tryz.prog 17 [Value.pointer (some a)] w R :=
 vc_of hm noHints Tryz.func17 ent17 (by kernel_rfl) h
theorem vc65 (a : Addr) (b : Int) (w : World) (R : Value → World → Prop)
 (h : rd (World.cell? w (Addr.add a (7 : Nat))) fun v0 => isB v0 fun t1 => br t1 (rd (World.cell? w (Addr.add a (6 : Nat))) fun v2 => isK IntKind.i64 v2 fun i3 => stC w (Addr.add a (6 : Nat)) [Value.int IntKind.i64 (IntKind.wrap IntKind.i64 (Int.tdiv (IntKind.wrap IntKind.i64 (IntKind.wrap IntKind.i64 (IntKind.wrap IntKind.i64 ((7 : Int) * i3) + b) + (4 : Int))) (8 : Int)))] fun w4 => stC w4 (Addr.add a (7 : Nat)) [Value.bool true] fun w5 => R (Value.tuple #[]) w5) (stC w (Addr.add a (6 : Nat)) [Value.int IntKind.i64 b] fun w6 => stC w6 (Addr.add a (7 : Nat)) [Value.bool true] fun w7 => R (Value.tuple #[]) w7)) :
 callV Tryz.prog 65 [Value.pointer (some a), Value.int IntKind.i64 b] w R :=
 vc_of hm noHints Tryz.func65 ent65 (by kernel_rfl) h
theorem vc35 (a : Addr) (b0 : Int) (b1 : Int) (b2p : Option Addr) (b2n : Nat) (b2c : Nat) (c : Int) (w : World) (R : Value → World → Prop)
 (h : allocC w (Obj.cells #[Value.int IntKind.u16 b0, Value.int IntKind.u32 b1, Value.slice b2p b2n b2c] (101 : Nat)) fun n0 w1 => rd (World.cell? w1 { block := n0, off := (1 : Nat) : Addr }) fun v2 => isK IntKind.u32 v2 fun i3 => br (decide (i3 < c)) (rd (World.cell? w1 { block := n0, off := (1 : Nat) : Addr }) fun v4 => isK IntKind.u32 v4 fun i5 => callV Tryz.prog (65 : Nat) [Value.pointer (some a), Value.int IntKind.i64 (IntKind.wrap IntKind.i64 (min (IntKind.wrap IntKind.u32 (c - i5)) (1000 : Int)))] w1 fun v6 w7 => rd (World.cell? w7 { block := n0, off := (2 : Nat) : Addr }) fun v8 => isSl v8 fun o9 n10 n11 => loopC (alist [((25 : Nat), Value.int IntKind.i64 (0 : Int))]) w7 fun u12 u13 => ∀ (u14 : Nat → Value) (w15 : World), u12 (alist [((25 : Nat), u14 (25 : Nat))]) w15 → rd (orO (binV BinOp.lss (u14 (25 : Nat)) (Value.int IntKind.i64 (↑n10 : Int))) none) fun v17 => isB v17 fun t18 => br t18 (isInt (u14 (25 : Nat)) fun k19 i20 => rd o9 fun a21 => ((0 : Int) ≤ i20 ∧ i20 < (↑n10 : Int)) ∧ rd (World.cell? w15 (Addr.add a21 (Int.toNat i20 * (1 : Nat)))) fun v22 => isP v22 fun o23 => rd (nilChk (Value.pointer o23)) fun v24 => isPtr v24 fun a25 => stC w15 (Addr.add a25 (23 : Nat)) [Value.bool true] fun w26 => rd (orO (binV BinOp.add (u14 (25 : Nat)) (Value.int IntKind.i64 (1 : Int))) none) fun v27 => isK IntKind.i64 v27 fun i28 => again u12 u13 (alist [((25 : Nat), Value.int IntKind.i64 i28)]) w26 (alist [((25 : Nat), u14 (25 : Nat))]) w15) (R (Value.tuple #[]) w15)) (callV Tryz.prog (65 : Nat) [Value.pointer (some a), Value.int IntKind.i64 (0 : Int)] w1 fun v29 w30 => rd (World.cell? w30 { block := n0, off := (2 : Nat) : Addr }) fun v31 => isSl v31 fun o32 n33 n34 => loopC (alist [((25 : Nat), Value.int IntKind.i64 (0 : Int))]) w30 fun u35 u36 => ∀ (u37 : Nat → Value) (w38 : World), u35 (alist [((25 : Nat), u37 (25 : Nat))]) w38 → rd (orO (binV BinOp.lss (u37 (25 : Nat)) (Value.int IntKind.i64 (↑n33 : Int))) none) fun v40 => isB v40 fun t41 => br t41 (isInt (u37 (25 : Nat)) fun k42 i43 => rd o32 fun a44 => ((0 : Int) ≤ i43 ∧ i43 < (↑n33 : Int)) ∧ rd (World.cell? w38 (Addr.add a44 (Int.toNat i43 * (1 : Nat)))) fun v45 => isP v45 fun o46 => rd (nilChk (Value.pointer o46)) fun v47 => isPtr v47 fun a48 => stC w38 (Addr.add a48 (23 : Nat)) [Value.bool true] fun w49 => rd (orO (binV BinOp.add (u37 (25 : Nat)) (Value.int IntKind.i64 (1 : Int))) none) fun v50 => isK IntKind.i64 v50 fun i51 => again u35 u36 (alist [((25 : Nat), Value.int IntKind.i64 i51)]) w49 (alist [((25 : Nat), u37 (25 : Nat))]) w38) (R (Value.tuple #[]) w38))) :
 callV Tryz.prog 35 [Value.pointer (some a), Value.agg #[Value.int IntKind.u16 b0, Value.int IntKind.u32 b1, Value.slice b2p b2n b2c], Value.int IntKind.u32 c] w R :=
 vc_of hm ⟨fun _ => false, fun _ => .done, fun n => match n with | 6 => [25] | _ => []⟩ Tryz.func35 ent35 (by kernel_rfl) h
end Go.Proofs.YtipikchkbmgloaaGreatDoor
namespace Go.Proofs.YtipikchkbmgloaaGreatDoor
set_option linter.unusedSimpArgs false
set_option linter.unusedVariables false
open Go VC
theorem vc64 (ap : Option Addr) (an : Nat) (ac : Nat) (b : Value) (w : World) (R : Value → World → Prop)
 (h : loopC (alist [((8 : Nat), Value.int IntKind.i64 (0 : Int))]) w fun u0 u1 => ∀ (u2 : Nat → Value) (w3 : World), u0 (alist [((8 : Nat), u2 (8 : Nat))]) w3 → rd (orO (binV BinOp.lss (u2 (8 : Nat)) (Value.int IntKind.i64 (↑an : Int))) none) fun v5 => isB v5 fun t6 => br t6 (isK IntKind.i64 (u2 (8 : Nat)) fun i7 => rd ap fun a8 => ((0 : Int) ≤ i7 ∧ i7 < (↑an : Int)) ∧ rd (cellsAt w3 (Addr.add a8 (Int.toNat i7 * (3 : Nat))) (3 : Nat)) fun l9 => isFn b fun f10 l11 l12 => callF Tryz.prog f10 (l11 ++ [Value.agg (List.toArray l9)]) l12 w3 fun v13 w14 => isB v13 fun t15 => br t15 (R (Value.int IntKind.i64 i7) w14) (rd (orO (binV BinOp.add (u2 (8 : Nat)) (Value.int IntKind.i64 (1 : Int))) none) fun v16 => isK IntKind.i64 v16 fun i17 => again u0 u1 (alist [((8 : Nat), Value.int IntKind.i64 i17)]) w14 (alist [((8 : Nat), u2 (8 : Nat))]) w3)) (R (Value.int IntKind.i64 (-1 : Int)) w3)) :
 callV Tryz.prog 64 [Value.slice ap an ac, b] w R :=
 vc_of hm ⟨fun _ => false, fun _ => .done, fun n => match n with | 2 => [8] | _ => []⟩ Tryz.func64 ent64 (by kernel_rfl) h
theorem vc66 (ap : Option Addr) (an : Nat) (ac : Nat) (b : Value) (w : World) (R : Value → World → Prop)
 (h : loopC (alist [((8 : Nat), Value.int IntKind.i64 (0 : Int))]) w fun u0 u1 => ∀ (u2 : Nat → Value) (w3 : World), u0 (alist [((8 : Nat), u2 (8 : Nat))]) w3 → rd (orO (binV BinOp.lss (u2 (8 : Nat)) (Value.int IntKind.i64 (↑an : Int))) none) fun v5 => isB v5 fun t6 => br t6 (isK IntKind.i64 (u2 (8 : Nat)) fun i7 => rd ap fun a8 => ((0 : Int) ≤ i7 ∧ i7 < (↑an : Int)) ∧ rd (World.cell? w3 (Addr.add a8 (Int.toNat i7 * (1 : Nat)))) fun v9 => isP v9 fun o10 => isFn b fun f11 l12 l13 => callF Tryz.prog f11 (l12 ++ [Value.pointer o10]) l13 w3 fun v14 w15 => isB v14 fun t16 => br t16 (R (Value.int IntKind.i64 i7) w15) (rd (orO (binV BinOp.add (u2 (8 : Nat)) (Value.int IntKind.i64 (1 : Int))) none) fun v17 => isK IntKind.i64 v17 fun i18 => again u0 u1 (alist [((8 : Nat), Value.int IntKind.i64 i18)]) w15 (alist [((8 : Nat), u2 (8 : Nat))]) w3)) (R (Value.int IntKind.i64 (-1 : Int)) w3)) :
 callV Tryz.prog 66 [Value.slice ap an ac, b] w R :=
 vc_of hm ⟨fun _ => false, fun _ => .done, fun n => match n with | 2 => [8] | _ => []⟩ Tryz.func66 ent66 (by kernel_rfl) h
theorem vc37 (a : Addr) (w : World) (R : Value → World → Prop)
 (h : rd (World.cell? w (Addr.add a (23 : Nat))) fun v0 => isB v0 fun t1 => R (Value.bool t1) w) :
 callV Tryz.prog 37 [Value.pointer (some a)] w R :=
 vc_of hm noHints Tryz.func37 ent37 (by kernel_rfl) h
theorem vc33 (a0 : Int) (a1 : Int) (a2p : Option Addr) (a2n : Nat) (a2c : Nat) (c0 : Addr) (c1 : Addr) (c2 : Addr) (w : World) (R : Value → World → Prop)
 (h : allocC w (Obj.cells #[Value.int IntKind.u16 a0, Value.int IntKind.u32 a1, Value.slice a2p a2n a2c] (101 : Nat)) fun n0 w1 => rd (World.cell? w1 (Addr.add c0 (1 : Nat))) fun v2 => isB v2 fun t3 => br (!t3) (R (Value.bool false) w1) (rd (World.cell? w1 (Addr.add c0 (2 : Nat))) fun v4 => isK IntKind.u16 v4 fun i5 => rd (World.cell? w1 (Addr.add c0 (3 : Nat))) fun v6 => isK IntKind.u32 v6 fun i7 => rd (World.cell? w1 { block := n0, off := (0 : Nat) : Addr }) fun v8 => isK IntKind.u16 v8 fun i9 => callV Tryz.prog (34 : Nat) [Value.int IntKind.u16 i5, Value.int IntKind.u32 i7, Value.int IntKind.u16 i9] w1 fun v10 w11 => isB v10 fun t12 => br (!t12) (R (Value.bool false) w11) (rd (World.cell? w11 c1) fun v13 => isP v13 fun o14 => rd (cellsAt w11 { block := n0, off := (0 : Nat) : Addr } (3 : Nat)) fun l15 => rd (World.cell? w11 c2) fun v16 => isK IntKind.u32 v16 fun i17 => callV Tryz.prog (35 : Nat) [Value.pointer o14, Value.agg (List.toArray l15), Value.int IntKind.u32 i17] w11 fun v18 w19 => R (Value.bool true) w19))) :
 callV Tryz.prog 33 [Value.agg #[Value.int IntKind.u16 a0, Value.int IntKind.u32 a1, Value.slice a2p a2n a2c], Value.pointer (some c0), Value.pointer (some c1), Value.pointer (some c2)] w R :=
 vc_of hm noHints Tryz.func33 ent33 (by kernel_rfl) h
theorem vc32 (ap : Option Addr) (an : Nat) (ac : Nat) (b : Value) (w : World) (R : Value → World → Prop)
 (h : callV Tryz.prog (64 : Nat) [Value.slice ap an ac, b] w fun v0 w1 => isK IntKind.i64 v0 fun i2 => br (decide (i2 = (-1 : Int))) (R (Value.slice ap an ac) w1) (loopC (alist [((5 : Nat), Value.int IntKind.i64 i2), ((6 : Nat), Value.int IntKind.i64 (IntKind.wrap IntKind.i64 (i2 + (1 : Int))))]) w1 fun u3 u4 => ∀ (u5 : Nat → Value) (w6 : World), u3 (alist [((5 : Nat), u5 (5 : Nat)), ((6 : Nat), u5 (6 : Nat))]) w6 → isK IntKind.i64 (u5 (6 : Nat)) fun i8 => br (decide (i8 < (↑an : Int))) (isK IntKind.i64 (u5 (6 : Nat)) fun i9 => rd ap fun a10 => ((0 : Int) ≤ i9 ∧ i9 < (↑an : Int)) ∧ rd (cellsAt w6 (Addr.add a10 (Int.toNat i9 * (3 : Nat))) (3 : Nat)) fun l11 => allocC w6 (Obj.cells #[Value.int IntKind.u16 (0 : Int), Value.int IntKind.u32 (0 : Int), Value.slice none (0 : Nat) (0 : Nat)] (101 : Nat)) fun n12 w13 => rd (gd (List.length l11 == (3 : Nat))) fun _x => stC w13 { block := n12, off := (0 : Nat) : Addr } l11 fun w14 => rd (cellsAt w14 { block := n12, off := (0 : Nat) : Addr } (3 : Nat)) fun l15 => isFn b fun f16 l17 l18 => callF Tryz.prog f16 (l17 ++ [Value.agg (List.toArray l15)]) l18 w14 fun v19 w20 => isB v19 fun t21 => br (!t21) (isK IntKind.i64 (u5 (5 : Nat)) fun i22 => rd (cellsAt w20 { block := n12, off := (0 : Nat) : Addr } (3 : Nat)) fun l23 => rd ap fun a24 => ((0 : Int) ≤ i22 ∧ i22 < (↑an : Int)) ∧ rd (gd (List.length l23 == (3 : Nat))) fun _x => stC w20 (Addr.add a24 (Int.toNat i22 * (3 : Nat))) l23 fun w25 => isK IntKind.i64 (u5 (5 : Nat)) fun i26 => isK IntKind.i64 (u5 (6 : Nat)) fun i27 => again u3 u4 (alist [((5 : Nat), Value.int IntKind.i64 (IntKind.wrap IntKind.i64 (i26 + (1 : Int)))), ((6 : Nat), Value.int IntKind.i64 (IntKind.wrap IntKind.i64 (i27 + (1 : Int))))]) w25 (alist [((5 : Nat), u5 (5 : Nat)), ((6 : Nat), u5 (6 : Nat))]) w6) (isK IntKind.i64 (u5 (6 : Nat)) fun i28 => again u3 u4 (alist [((5 : Nat), u5 (5 : Nat)), ((6 : Nat), Value.int IntKind.i64 (IntKind.wrap IntKind.i64 (i28 + (1 : Int))))]) w20 (alist [((5 : Nat), u5 (5 : Nat)), ((6 : Nat), u5 (6 : Nat))]) w6)) (isK IntKind.i64 (u5 (5 : Nat)) fun i29 => runs Tryz.prog (Instr.sliceAt (66 : Nat) (Value.slice ap an ac) (some (Value.int IntKind.i64 i29)) none none) w6 fun v30 w31 => isSl v30 fun o32 n33 n34 => runs Tryz.prog (Builtin.clear_ #[(66 : Nat)] (0 : Nat) #[Value.slice o32 n33 n34]) w31 fun v35 w36 => isK IntKind.i64 (u5 (5 : Nat)) fun i37 => runs Tryz.prog (Instr.sliceAt (66 : Nat) (Value.slice ap an ac) none (some (Value.int IntKind.i64 i37)) none) w36 fun v38 w39 => isSl v38 fun o40 n41 n42 => R (Value.slice o40 n41 n42) w39))) :
 callV Tryz.prog 32 [Value.slice ap an ac, b] w R :=
 vc_of hm ⟨fun _ => false, fun _ => .done, fun n => match n with | 5 => [5, 6] | _ => []⟩ Tryz.func32 ent32 (by kernel_rfl) h
theorem vc36 (ap : Option Addr) (an : Nat) (ac : Nat) (b : Value) (w : World) (R : Value → World → Prop)
 (h : callV Tryz.prog (66 : Nat) [Value.slice ap an ac, b] w fun v0 w1 => isK IntKind.i64 v0 fun i2 => br (decide (i2 = (-1 : Int))) (R (Value.slice ap an ac) w1) (loopC (alist [((5 : Nat), Value.int IntKind.i64 i2), ((6 : Nat), Value.int IntKind.i64 (IntKind.wrap IntKind.i64 (i2 + (1 : Int))))]) w1 fun u3 u4 => ∀ (u5 : Nat → Value) (w6 : World), u3 (alist [((5 : Nat), u5 (5 : Nat)), ((6 : Nat), u5 (6 : Nat))]) w6 → isK IntKind.i64 (u5 (6 : Nat)) fun i8 => br (decide (i8 < (↑an : Int))) (isK IntKind.i64 (u5 (6 : Nat)) fun i9 => rd ap fun a10 => ((0 : Int) ≤ i9 ∧ i9 < (↑an : Int)) ∧ rd (World.cell? w6 (Addr.add a10 (Int.toNat i9 * (1 : Nat)))) fun v11 => isP v11 fun o12 => isFn b fun f13 l14 l15 => callF Tryz.prog f13 (l14 ++ [Value.pointer o12]) l15 w6 fun v16 w17 => isB v16 fun t18 => br (!t18) (isK IntKind.i64 (u5 (5 : Nat)) fun i19 => rd ap fun a20 => ((0 : Int) ≤ i19 ∧ i19 < (↑an : Int)) ∧ stC w17 (Addr.add a20 (Int.toNat i19 * (1 : Nat))) [Value.pointer o12] fun w21 => isK IntKind.i64 (u5 (5 : Nat)) fun i22 => isK IntKind.i64 (u5 (6 : Nat)) fun i23 => again u3 u4 (alist [((5 : Nat), Value.int IntKind.i64 (IntKind.wrap IntKind.i64 (i22 + (1 : Int)))), ((6 : Nat), Value.int IntKind.i64 (IntKind.wrap IntKind.i64 (i23 + (1 : Int))))]) w21 (alist [((5 : Nat), u5 (5 : Nat)), ((6 : Nat), u5 (6 : Nat))]) w6) (isK IntKind.i64 (u5 (6 : Nat)) fun i24 => again u3 u4 (alist [((5 : Nat), u5 (5 : Nat)), ((6 : Nat), Value.int IntKind.i64 (IntKind.wrap IntKind.i64 (i24 + (1 : Int))))]) w17 (alist [((5 : Nat), u5 (5 : Nat)), ((6 : Nat), u5 (6 : Nat))]) w6)) (isK IntKind.i64 (u5 (5 : Nat)) fun i25 => runs Tryz.prog (Instr.sliceAt (65 : Nat) (Value.slice ap an ac) (some (Value.int IntKind.i64 i25)) none none) w6 fun v26 w27 => isSl v26 fun o28 n29 n30 => runs Tryz.prog (Builtin.clear_ #[(65 : Nat)] (0 : Nat) #[Value.slice o28 n29 n30]) w27 fun v31 w32 => isK IntKind.i64 (u5 (5 : Nat)) fun i33 => runs Tryz.prog (Instr.sliceAt (65 : Nat) (Value.slice ap an ac) none (some (Value.int IntKind.i64 i33)) none) w32 fun v34 w35 => isSl v34 fun o36 n37 n38 => R (Value.slice o36 n37 n38) w35))) :
 callV Tryz.prog 36 [Value.slice ap an ac, b] w R :=
 vc_of hm ⟨fun _ => false, fun _ => .done, fun n => match n with | 5 => [5, 6] | _ => []⟩ Tryz.func36 ent36 (by kernel_rfl) h
theorem vc12 (a : Addr) (bp : Option Addr) (bn : Nat) (bc : Nat) (c : Int) (w : World) (R : Value → World → Prop)
 (h : allocC w (Obj.cells #[Value.pointer (some a)] (24 : Nat)) fun n0 w1 => allocC w1 (Obj.cells #[Value.int IntKind.u32 c] (31 : Nat)) fun n2 w3 => callV Tryz.prog (30 : Nat) [Value.slice bp bn bc] w3 fun v4 w5 => isTup v4 fun l6 => rd l6[(0 : Nat)]? fun v7 => isTup v4 fun l8 => rd l8[(1 : Nat)]? fun v9 => isK IntKind.i64 v9 fun i10 => allocC w5 (Obj.cells #[Value.int IntKind.u16 (0 : Int), Value.bool false, Value.int IntKind.u16 (0 : Int), Value.int IntKind.u32 (0 : Int), Value.slice none (0 : Nat) (0 : Nat)] (96 : Nat)) fun n11 w12 => rd (gd (List.length (Array.toList (Value.cells v7)) == (5 : Nat))) fun _x => stC w12 { block := n11, off := (0 : Nat) : Addr } (cellsOf true v7) fun w13 => br (!decide (i10 = (0 : Int))) (R (Value.tuple #[Value.slice none (0 : Nat) (0 : Nat), Value.int IntKind.i64 i10]) w13) (heldC (World.drew w13) fun u14 => rd (World.cell? (World.drew w13) { block := n0, off := (0 : Nat) : Addr }) fun v15 => (∀ (w16 : World), u14 w16 → rd (World.cell? w16 { block := n0, off := (0 : Nat) : Addr }) fun v18 => v18 = v15 ∧ w16 = w16) ∧ isP v15 fun o19 => rd (nilChk (Value.pointer o19)) fun v20 => (∀ (w21 : World), u14 w21 → rd (nilChk (Value.pointer o19)) fun v23 => v23 = v20 ∧ w21 = w21) ∧ isPtr v20 fun a24 => (∀ (w25 : World), u14 w25 → isPtr v20 fun a27 => Value.pointer (some (Addr.add a27 (3 : Nat))) = Value.pointer (some (Addr.add a24 (3 : Nat))) ∧ w25 = w25) ∧ (∀ (w28 : World), u14 w28 → Value.pointer (some { block := n11, off := (0 : Nat) : Addr }) = Value.pointer (some { block := n11, off := (0 : Nat) : Addr }) ∧ w28 = w28) ∧ rd (World.cell? (World.drew w13) { block := n11, off := (0 : Nat) : Addr }) fun v30 => (∀ (w31 : World), u14 w31 → rd (World.cell? w31 { block := n11, off := (0 : Nat) : Addr }) fun v33 => v33 = v30 ∧ w31 = w31) ∧ isK IntKind.u16 v30 fun i34 => callV Tryz.prog (31 : Nat) [Value.pointer (some (Addr.add a24 (3 : Nat))), Value.int IntKind.u16 i34] (World.drew w13) fun v35 w36 => isB v35 fun t37 => u14 w36 ∧ (∀ (w38 : World), u14 w38 → (Value.bool !t37) = Value.bool !t37 ∧ w38 = w38) ∧ br (!t37) (R (Value.tuple #[Value.slice none (0 : Nat) (0 : Nat), Value.int IntKind.i64 (7 : Int)]) w36) (rd (World.cell? w36 { block := n0, off := (0 : Nat) : Addr }) fun v40 => isP v40 fun o41 => rd (World.cell? w36 { block := n2, off := (0 : Nat) : Addr }) fun v42 => isK IntKind.u32 v42 fun i43 => rd (nilChk (Value.pointer o41)) fun v44 => isPtr v44 fun a45 => stC w36 (Addr.add a45 (8 : Nat)) [Value.int IntKind.u32 i43] fun w46 => heldC (World.drew w46) fun u47 => rd (World.cell? (World.drew w46) { block := n0, off := (0 : Nat) : Addr }) fun v48 => (∀ (w49 : World), u47 w49 → rd (World.cell? w49 { block := n0, off := (0 : Nat) : Addr }) fun v51 => v51 = v48 ∧ w49 = w49) ∧ isP v48 fun o52 => rd (World.cell? (World.drew w46) { block := n0, off := (0 : Nat) : Addr }) fun v53 => (∀ (w54 : World), u47 w54 → rd (World.cell? w54 { block := n0, off := (0 : Nat) : Addr }) fun v56 => v56 = v53 ∧ w54 = w54) ∧ isP v53 fun o57 => rd (nilChk (Value.pointer o57)) fun v58 => (∀ (w59 : World), u47 w59 → rd (nilChk (Value.pointer o57)) fun v61 => v61 = v58 ∧ w59 = w59) ∧ isPtr v58 fun a62 => (∀ (w63 : World), u47 w63 → isPtr v58 fun a65 => Value.pointer (some (Addr.add a65 (2 : Nat))) = Value.pointer (some (Addr.add a62 (2 : Nat))) ∧ w63 = w63) ∧ rd (World.cell? (World.drew w46) (Addr.add a62 (2 : Nat))) fun v66 => (∀ (w67 : World), u47 w67 → rd (World.cell? w67 (Addr.add a62 (2 : Nat))) fun v69 => v69 = v66 ∧ w67 = w67) ∧ isSl v66 fun o70 n71 n72 => (∀ (w73 : World), u47 w73 → Value.func (Fn.func (33 : Nat)) #[] #[Value.pointer (some { block := n11, off := (0 : Nat) : Addr }), Value.pointer (some { block := n0, off := (0 : Nat) : Addr }), Value.pointer (some { block := n2, off := (0 : Nat) : Addr })] = Value.func (Fn.func (33 : Nat)) #[] #[Value.pointer (some { block := n11, off := (0 : Nat) : Addr }), Value.pointer (some { block := n0, off := (0 : Nat) : Addr }), Value.pointer (some { block := n2, off := (0 : Nat) : Addr })] ∧ w73 = w73) ∧ callV Tryz.prog (32 : Nat) [Value.slice o70 n71 n72, Value.func (Fn.func (33 : Nat)) #[] #[Value.pointer (some { block := n11, off := (0 : Nat) : Addr }), Value.pointer (some { block := n0, off := (0 : Nat) : Addr }), Value.pointer (some { block := n2, off := (0 : Nat) : Addr })]] (World.drew w46) fun v75 w76 => isSl v75 fun o77 n78 n79 => u47 w76 ∧ rd (nilChk (Value.pointer o52)) fun v80 => isPtr v80 fun a81 => stC w76 (Addr.add a81 (2 : Nat)) [Value.slice o77 n78 n79] fun w82 => heldC (World.drew w82) fun u83 => rd (World.cell? (World.drew w82) { block := n0, off := (0 : Nat) : Addr }) fun v84 => (∀ (w85 : World), u83 w85 → rd (World.cell? w85 { block := n0, off := (0 : Nat) : Addr }) fun v87 => v87 = v84 ∧ w85 = w85) ∧ isP v84 fun o88 => rd (World.cell? (World.drew w82) { block := n0, off := (0 : Nat) : Addr }) fun v89 => (∀ (w90 : World), u83 w90 → rd (World.cell? w90 { block := n0, off := (0 : Nat) : Addr }) fun v92 => v92 = v89 ∧ w90 = w90) ∧ isP v89 fun o93 => rd (nilChk (Value.pointer o93)) fun v94 => (∀ (w95 : World), u83 w95 → rd (nilChk (Value.pointer o93)) fun v97 => v97 = v94 ∧ w95 = w95) ∧ isPtr v94 fun a98 => (∀ (w99 : World), u83 w99 → isPtr v94 fun a101 => Value.pointer (some (Addr.add a101 (1 : Nat))) = Value.pointer (some (Addr.add a98 (1 : Nat))) ∧ w99 = w99) ∧ rd (World.cell? (World.drew w82) (Addr.add a98 (1 : Nat))) fun v102 => (∀ (w103 : World), u83 w103 → rd (World.cell? w103 (Addr.add a98 (1 : Nat))) fun v105 => v105 = v102 ∧ w103 = w103) ∧ isSl v102 fun o106 n107 n108 => callV Tryz.prog (36 : Nat) [Value.slice o106 n107 n108, Value.func (Fn.func (37 : Nat)) #[] #[]] (World.drew w82) fun v109 w110 => isSl v109 fun o111 n112 n113 => u83 w110 ∧ rd (nilChk (Value.pointer o88)) fun v114 => isPtr v114 fun a115 => stC w110 (Addr.add a115 (1 : Nat)) [Value.slice o111 n112 n113] fun w116 => rd (World.cell? w116 { block := n11, off := (4 : Nat) : Addr }) fun v117 => isSl v117 fun o118 n119 n120 => R (Value.tuple #[Value.slice o118 n119 n120, Value.int IntKind.i64 (0 : Int)]) w116))) :
 callV Tryz.prog 12 [Value.pointer (some a), Value.slice bp bn bc, Value.int IntKind.u32 c] w R :=
 vc_of hm ⟨fun _ => false, fun n => match n with | 4 => .take 0 (.take 1 (.take 2 (.take 3 (.take 4 (.one 5 (.take 6 (.done))))))) | 7 => .take 0 (.take 1 (.take 2 (.take 3 (.take 4 (.take 5 (.one 6 (.last 7 (.last 8 (.last 9 (.done)))))))))) | 8 => .take 0 (.take 1 (.take 2 (.take 3 (.take 4 (.one 5 (.last 6 (.last 7 (.last 8 (.done))))))))) | _ => .done, fun _ => []⟩ Tryz.func12 ent12 (by kernel_rfl) h
end Go.Proofs.YtipikchkbmgloaaGreatDoor
namespace Go.Proofs.YtipikchkbmgloaaGreatDoor
set_option linter.unusedSimpArgs false
set_option linter.unusedVariables false
open Go Go.RowKit VC
variable {w : World}
def distI (a b : Nat) : Int := ((a : Int) - b + 32768) % 65536 - 32768
theorem distI_eq (a b : Nat) : IntKind.i64.wrap (IntKind.i16.wrap (IntKind.u16.wrap ((a : Int) - b))) = distI a b := by
 rw [IntKind.wrap_i64]
 simp only [IntKind.wrap, IntKind.bits, IntKind.signed, distI]
 simp
 omega
theorem distI_r (a b : Nat) : -32768 ≤ distI a b ∧ distI a b < 32768 := by unfold distI; omega
structure Win where
 any : Bool
 last : Nat
 bits : Nat
structure Wok (W : Win) : Prop where
 last : W.last < 65536
 bits : W.bits < 4294967296
def accW (W : Win) (n : Nat) : Bool × Win :=
 if W.any = false then (true, ⟨true, n, 0⟩)
 else if 0 < distI n W.last then (true, ⟨true, n, (W.bits * 2 ^ (distI n W.last).toNat % 4294967296 ||| 2 ^ ((distI n W.last).toNat - 1) % 4294967296)⟩)
 else if distI n W.last = 0 ∨ distI n W.last < -32 ∨ W.bits.testBit ((-distI n W.last).toNat - 1) = true then (false, W)
 else (true, ⟨true, W.last, W.bits ||| 2 ^ ((-distI n W.last).toNat - 1)⟩)
def ackW (last bits n : Nat) : Bool :=
 if distI last n < 0 ∨ 32 < distI last n then false
 else if 0 < distI last n then bits.testBit ((distI last n).toNat - 1)
 else true
theorem or_lt32 {a b : Nat} (ha : a < 4294967296) (hb : b < 4294967296) : a ||| b < 4294967296 := Nat.or_lt_two_pow (n := 32) ha hb
theorem accW_ok {W : Win} {n : Nat} (h : Wok W) (hn : n < 65536) : Wok (accW W n).2 := by
 obtain ⟨h1, h2⟩ := h
 unfold accW
 split
 ·exact ⟨hn, by show 0 < 4294967296; omega⟩
 ·split
  ·exact ⟨hn, or_lt32 (Nat.mod_lt _ (by omega)) (Nat.mod_lt _ (by omega))⟩
  ·split
   ·exact ⟨h1, h2⟩
   ·rename_i hd
    refine ⟨h1, or_lt32 h2 ?_⟩
    rw [not_or, not_or] at hd
    have : (-distI n W.last).toNat - 1 ≤ 31 := by omega
    calc 2 ^ ((-distI n W.last).toNat - 1) ≤ 2 ^ 31 := Nat.pow_le_pow_right (by omega) this
     _ < 4294967296 := by decide
theorem orI32 {a b : Nat} (ha : a < 4294967296) (hb : b < 4294967296) : orI .u32 (a : Int) (b : Int) = ((a ||| b : Nat) : Int) := by
 unfold orI
 have : ((BitVec.ofInt IntKind.u32.bits (a : Int)) ||| (BitVec.ofInt IntKind.u32.bits (b : Int))).toNat = a ||| b := by
  rw [BitVec.toNat_or, BitVec.ofInt_natCast, BitVec.ofInt_natCast, BitVec.toNat_ofNat, BitVec.toNat_ofNat, show IntKind.u32.bits = 32 from rfl, Nat.mod_eq_of_lt (by omega), Nat.mod_eq_of_lt (by omega)]
 rw [this, w32]
 have := or_lt32 ha hb
 omega
theorem w32m (n : Nat) : IntKind.u32.wrap (n : Int) = ((n % 4294967296 : Nat) : Int) := by simp only [IntKind.wrap, IntKind.bits, IntKind.signed]; simp
theorem shl32 (a d : Nat) : IntKind.u32.wrap ((a : Int) * 2 ^ (min d IntKind.u32.bits)) = ((a * 2 ^ d % 4294967296 : Nat) : Int) := by
 have e : ((a : Int) * 2 ^ (min d IntKind.u32.bits)) = ((a * 2 ^ (min d 32) : Nat) : Int) := by
  rw [show IntKind.u32.bits = 32 from rfl]
  exact_mod_cast rfl
 rw [e, w32m]
 congr 1
 by_cases h : d ≤ 32
 ·rw [Nat.min_eq_left h]
 ·rw [Nat.min_eq_right (by omega)]
  obtain ⟨k, rfl⟩ : ∃ k, d = 32 + k := ⟨d - 32, by omega⟩
  rw [show (4294967296 : Nat) = 2 ^ 32 from rfl, Nat.mul_mod_left, Nat.pow_add, ← Nat.mul_assoc, Nat.mul_right_comm, Nat.mul_mod_left]
theorem bit1 (a k : Nat) (ha : a < 4294967296) (hk : k ≤ 31) : (andI .u32 ((a : Int).fdiv (2 ^ (min k IntKind.u32.bits))) 1 = 1) ↔ a.testBit k = true := by
 have e : ((a : Int).fdiv (2 ^ (min k IntKind.u32.bits))) = ((a / 2 ^ k : Nat) : Int) := by
  rw [Nat.min_eq_left (by have : IntKind.u32.bits = 32 := rfl; omega)]
  have : (2 : Int) ^ k = ((2 ^ k : Nat) : Int) := by exact_mod_cast rfl
  rw [this, fdivN]
 rw [e]
 have hlt : a / 2 ^ k < 4294967296 := Nat.lt_of_le_of_lt (Nat.div_le_self _ _) ha
 have h1 : andI .u32 ((a / 2 ^ k : Nat) : Int) 1 = ((a / 2 ^ k % 2 : Nat) : Int) := by
  unfold andI
  have : ((BitVec.ofInt IntKind.u32.bits ((a / 2 ^ k : Nat) : Int)) &&& (BitVec.ofInt IntKind.u32.bits ((1 : Nat) : Int))).toNat = a / 2 ^ k % 2 := by
   rw [BitVec.toNat_and, BitVec.ofInt_natCast, BitVec.ofInt_natCast, BitVec.toNat_ofNat, BitVec.toNat_ofNat, show IntKind.u32.bits = 32 from rfl, Nat.mod_eq_of_lt (by omega), Nat.mod_eq_of_lt (by omega), Nat.and_one_is_mod]
  rw [show ((1 : Int)) = ((1 : Nat) : Int) from rfl, this, w32]
  omega
 rw [h1, Nat.testBit_eq_decide_div_mod_eq, decide_eq_true_eq]
 omega
theorem dist68_c (a b : Nat) : callV Tryz.prog 63 [.int .u16 a, .int .u16 b] w fun v w' => v = .int .i64 (distI a b) ∧ w' = w := by
 refine vc63 a b w _ ?_
 rw [distI_eq]
 exact ⟨rfl, rfl⟩
def WinAt (w : World) (a : Addr) (W : Win) : Prop := w.cell? a = some (.bool W.any) ∧ w.cell? (a.add 1) = some (.int .u16 W.last) ∧ w.cell? (a.add 2) = some (.int .u32 W.bits)
theorem any37_c {a : Addr} {W : Win} (h : WinAt w a W) : callV Tryz.prog 24 [.pointer (some a)] w fun v w' => v = .bool W.any ∧ w' = w := by
 refine vc24 a w _ ?_
 simp only [h.1, vq, eqV, nilV]
theorem ack39_c {a : Addr} {W : Win} (h : WinAt w a W) : callV Tryz.prog 26 [.pointer (some a)] w fun v w' => v = .tuple #[.int .u16 W.last, .int .u32 W.bits] ∧ w' = w.drew := by
 refine vc26 a w _ ?_
 simp only [h.2.1, h.2.2, cell_drew, vq, eqV, nilV]
theorem acked43_c {last bits n : Nat} (hb : bits < 4294967296) : callV Tryz.prog 34 [.int .u16 last, .int .u32 bits, .int .u16 n] w fun v w' => v = .bool (ackW last bits n) ∧ w' = w := by
 refine vc34 last bits n w _ ?_
 refine (dist68_c last n).mono ?_
 rintro _ _ ⟨rfl, rfl⟩
 simp only [vq, eqV, nilV]
 unfold ackW
 refine br_dec (fun h => ?_) (fun h => ?_)
 ·rw [if_pos (.inl h)]
 refine br_dec (fun h2 => ?_) (fun h2 => ?_)
 ·rw [if_pos (.inr h2)]
 rw [if_neg (by omega)]
 refine br_dec (fun h3 => ?_) (fun h3 => ?_)
 ·rw [if_pos h3]
  obtain ⟨k, hk⟩ : ∃ k : Nat, distI last n = k + 1 := ⟨(distI last n).toNat - 1, by omega⟩
  rw [hk, show IntKind.i64.wrap ((k : Int) + 1 - 1) = (k : Int) from (w64 (by omega)).trans (by omega)]
  simp only [vq, eqV, nilV]
  have := bit1 bits k hb (by omega)
  rw [show ((k : Int) + 1).toNat - 1 = k by omega]
  cases ht : bits.testBit k with
  | true => rw [ht] at this; simp [this]
  | false => rw [ht] at this; simp [this]
 ·rw [if_neg h3]
def BoxA (w : World) (A : Nat) (x0 x1 x2 : Value) (W : Win) (x6 x7 x8 : Value) : Prop := w.heap[A]? = some (.cells #[x0, x1, x2, .bool W.any, .int .u16 W.last, .int .u32 W.bits, x6, x7, x8] 70 (0, 0))
theorem BoxA.win {A : Nat} {x0 x1 x2 x6 x7 x8 : Value} {W : Win} (h : BoxA w A x0 x1 x2 W x6 x7 x8) : WinAt w ⟨A, 3, none⟩ W := by
 refine ⟨cellOf h rfl, ?_, ?_⟩
 ·rw [addr_add]; exact cellOf h rfl
 ·rw [addr_add]; exact cellOf h rfl
theorem accept40_c {A n : Nat} {x0 x1 x2 x6 x7 x8 : Value} {W : Win} (h : BoxA w A x0 x1 x2 W x6 x7 x8) (hW : Wok W) (hn : n < 65536) :
  callV Tryz.prog 31 [.pointer (some ⟨A, 3, none⟩), .int .u16 n] w fun v w' => v = .bool (accW W n).1 ∧ BoxA w' A x0 x1 x2 (accW W n).2 x6 x7 x8 ∧ Fm (fun i => i = A) w w' := by
 refine vc31 ⟨A, 3, none⟩ n w _ ?_
 have c0 : w.cell? ⟨A, 3, none⟩ = some (.bool W.any) := cellOf h rfl
 have c1 : w.cell? ⟨A, 4, none⟩ = some (.int .u16 W.last) := cellOf h rfl
 have c2 : w.cell? ⟨A, 5, none⟩ = some (.int .u32 W.bits) := cellOf h rfl
 simp only [addr_add, Nat.reduceAdd, c1, vq, eqV, nilV]
 refine (dist68_c n W.last).mono ?_
 rintro _ w ⟨rfl, rfl⟩
 have hd := distI_r n W.last
 simp only [c0, vq, eqV, nilV]
 cases ha : W.any with
 | false =>
  simp only [vq, eqV, nilV, Bool.not_false]
  refine stC_one h (by simp) rfl fun w7 hb7 hf7 => ?_
  refine ⟨fun w' => w' = w7.drew, rfl, ?_⟩
  have k2 : w7.cell? ⟨A, 5, none⟩ = some (.int .u32 W.bits) := cellOf hb7 rfl
  simp only [k2, cell_drew, forall_eq, vq, eqV, nilV]
  rw [show IntKind.u32.wrap ((W.bits : Int) * 4294967296) = 0 by simp only [IntKind.wrap, IntKind.bits, IntKind.signed]; simp, show orI .u32 0 0 = 0 from rfl]
  refine stC_one (w := w7.drew) hb7 (by simp) rfl fun w34 hb34 hf34 => ?_
  refine stC_one hb34 (by simp) rfl fun w35 hb35 hf35 => ?_
  have e : accW W n = (true, ⟨true, n, 0⟩) := by unfold accW; rw [if_pos ha]
  rw [e]
  exact ⟨rfl, hb35, ((hf7.trans (Fm.drew w7).none).trans hf34).trans hf35⟩
 | true =>
  simp only [vq, eqV, nilV, Bool.not_true]
  have hna : ¬ W.any = false := by rw [ha]; simp
  refine br_dec (fun h1 => ?_) (fun h1 => ?_)
  ·refine ⟨fun w' => w' = w.drew, rfl, ?_⟩
   obtain ⟨k, hk⟩ : ∃ k : Nat, distI n W.last = k + 1 := ⟨(distI n W.last).toNat - 1, by omega⟩
   have e : accW W n = (true, ⟨true, n, (W.bits * 2 ^ (k + 1) % 4294967296 ||| 2 ^ k % 4294967296)⟩) := by
    unfold accW
    rw [if_neg hna, if_pos h1, hk, show ((k : Int) + 1).toNat = k + 1 by omega, Nat.add_sub_cancel]
   rw [hk, show IntKind.i64.wrap ((k : Int) + 1 - 1) = (k : Int) from (w64 (by omega)).trans (by omega), e]
   have s1 : binV .shl (.int .u32 W.bits) (.int .i64 ((k : Int) + 1)) = some (.int .u32 ((W.bits * 2 ^ (k + 1) % 4294967296 : Nat) : Int)) := by
    rw [show ((k : Int) + 1) = ((k + 1 : Nat) : Int) by omega, bv_shl, shl32]
   have s2 : binV .shl (.int .u32 1) (.int .i64 (k : Int)) = some (.int .u32 ((2 ^ k % 4294967296 : Nat) : Int)) := by
    rw [bv_shl, show (1 : Int) = ((1 : Nat) : Int) from rfl, shl32, Nat.one_mul]
   simp only [c2, cell_drew, forall_eq, s1, s2, vq, eqV, nilV]
   rw [orI32 (Nat.mod_lt _ (by omega)) (Nat.mod_lt _ (by omega))]
   refine stC_one (w := w.drew) h (by simp) rfl fun w34 hb34 hf34 => ?_
   refine stC_one hb34 (by simp) rfl fun w35 hb35 hf35 => ?_
   refine ⟨?_, ((Fm.drew w).none.trans hf34).trans hf35⟩
   simp only [ha] at hb35
   exact hb35
  refine br_dec (fun h2 => ?_) (fun h2 => ?_)
  ·have e : accW W n = (false, W) := by unfold accW; rw [if_neg hna, if_neg h1, if_pos (.inl h2)]
   rw [e]
   exact ⟨rfl, h, Fm.refl _ _⟩
  refine br_dec (fun h3 => ?_) (fun h3 => ?_)
  ·have e : accW W n = (false, W) := by unfold accW; rw [if_neg hna, if_neg h1, if_pos (.inr (.inl h3))]
   rw [e]
   exact ⟨rfl, h, Fm.refl _ _⟩
  obtain ⟨k, hk⟩ : ∃ k : Nat, distI n W.last = -((k : Int) + 1) := ⟨(-distI n W.last).toNat - 1, by omega⟩
  have hk31 : k ≤ 31 := by omega
  have ek : (-distI n W.last).toNat - 1 = k := by rw [hk]; omega
  rw [hk, show IntKind.i64.wrap (IntKind.i64.wrap (0 - -((k : Int) + 1)) - 1) = (k : Int) by rw [show IntKind.i64.wrap (0 - -((k : Int) + 1)) = (k : Int) + 1 from (w64 (by omega)).trans (by omega)]; exact (w64 (by omega)).trans (by omega)]
  simp only [c2, vq, eqV, nilV]
  have hb1 := bit1 W.bits k hW.bits hk31
  refine br_dec (fun h4 => ?_) (fun h4 => ?_)
  ·have e : accW W n = (false, W) := by unfold accW; rw [if_neg hna, if_neg h1, if_pos (.inr (.inr (by rw [ek]; exact hb1.1 h4)))]
   rw [e]
   exact ⟨rfl, h, Fm.refl _ _⟩
  ·have e : accW W n = (true, ⟨true, W.last, W.bits ||| 2 ^ k⟩) := by
    unfold accW
    rw [if_neg hna, if_neg h1, ek, if_neg]
    rintro (h | h | h)
    ·exact h2 h
    ·exact h3 h
    ·exact h4 (hb1.2 h)
   rw [e]
   refine ⟨fun w' => w' = w.drew, rfl, ?_⟩
   have hp : 2 ^ k < 4294967296 := Nat.lt_of_le_of_lt (Nat.pow_le_pow_right (by omega) hk31) (by decide)
   have s2 : IntKind.u32.wrap (1 * 2 ^ (min k IntKind.u32.bits)) = ((2 ^ k : Nat) : Int) := by
    have := shl32 1 k
    rw [Nat.one_mul, Nat.mod_eq_of_lt hp] at this
    exact this
   simp only [c2, cell_drew, forall_eq, vq, eqV, nilV]
   rw [s2, orI32 hW.bits hp]
   refine stC_one (w := w.drew) h (by simp) rfl fun w34 hb34 hf34 => ?_
   refine ⟨?_, (Fm.drew w).none.trans hf34⟩
   simp only [ha] at hb34
   exact hb34
end Go.Proofs.YtipikchkbmgloaaGreatDoor
namespace Go.Proofs.YtipikchkbmgloaaGreatDoor
set_option linter.unusedSimpArgs false
set_option linter.unusedVariables false
open Go Go.RowKit VC
variable {w : World}
theorem flatD_at {α : Type} {enc : α → List Value} {k : Nat} (hk : ∀ x, (enc x).length = k) : ∀ (xs : List α) (j : Nat) (x : α), xs[j]? = some x → ((xs.flatMap enc).drop (j * k)).take k = enc x := by
 intro xs
 induction xs with
 | nil => intro j x h; simp at h
 | cons y xs ih =>
  intro j x h
  cases j with
  | zero =>
   simp only [List.getElem?_cons_zero, Option.some.injEq] at h
   subst h
   simp only [Nat.zero_mul, List.drop_zero, List.flatMap_cons]
   rw [List.take_append_of_le_length (by rw [hk]; omega), List.take_of_length_le (by rw [hk]; omega)]
  | succ j =>
   simp only [List.getElem?_cons_succ] at h
   rw [List.flatMap_cons, List.drop_append, List.drop_eq_nil_of_le (by rw [hk, Nat.succ_mul]; omega), List.nil_append, hk, Nat.succ_mul, Nat.add_sub_cancel]
   exact ih j x h
theorem flatD_len {α : Type} {enc : α → List Value} {k : Nat} (hk : ∀ x, (enc x).length = k) (xs : List α) : (xs.flatMap enc).length = xs.length * k := by
 induction xs with
 | nil => simp
 | cons x xs ih => rw [List.flatMap_cons, List.length_append, ih, hk, List.length_cons, Nat.succ_mul, Nat.add_comm]
theorem clear_S {P : Program} {w : World} {t ty e : TypeId} {k : K} {size by_ : Nat} {z : Value} {K : Value → World → Prop} (ht : (row P t).k = .slice e) (he : row P e = ⟨k, size, by_, some z⟩) {g o n c : Nat} {C : Array Value} {tt : TypeId} (hb : w.heap[g]? = some (.cells C tt (0, 0))) (hn : 0 < n)
  (hs : o + n * z.cells.size ≤ C.size) (h1 : ∀ v ∈ z.cells.toList, v.oneCell' = true) (hz : 0 < z.cells.size)
  (kk : ∀ (w' : World) (C' : Array Value), w'.heap[g]? = some (.cells C' tt (0, 0)) → C'.size = C.size → C'.toList.take o = C.toList.take o → Fm (fun i => i = g) w w' → K (.tuple #[]) w') :
  runs P (Builtin.clear_ #[t] ty #[.slice (some ⟨g, o, none⟩) n c]) w K := by
 obtain ⟨i, hi, hzi, hsi, hbt⟩ := info_of_row he
 have hu := slice_of_row ht
 have hl : (Builtin.zeroCells z.cells n).toList.length = n * z.cells.size := by simp [Builtin.zeroCells]
 have h1' : ∀ v ∈ (Builtin.zeroCells z.cells n).toList, v.oneCell' = true := by
  intro v hv
  simp only [Builtin.zeroCells, Array.toList_map, List.mem_map] at hv
  obtain ⟨j, _, rfl⟩ := hv
  have hj : j % z.cells.size < z.cells.size := Nat.mod_lt _ hz
  rw [getElem!_pos z.cells _ hj]
  exact h1 _ (by simp)
 obtain ⟨c1, C', c2, c3, c4⟩ := stC_at_from (i := o) (Builtin.zeroCells z.cells n).toList 0 w C hb (by omega) h1'
 have hst := canWrite_run (P := P) _ _ _ c1
 obtain ⟨m, rfl⟩ : ∃ m, n = m + 1 := ⟨n - 1, by omega⟩
 refine ⟨_, _, ?_, kk _ C' c2 ?_ ?_ c4⟩
 ·simp [Builtin.clear_, run_underlying hu, run_zero hi hzi, hst]
 ·have := congrArg List.length c3
  simp only [List.length_append, List.length_take, List.length_drop, Array.length_toList] at this
  have hl2 : (Builtin.zeroCells z.cells (m + 1)).size = (m + 1) * z.cells.size := by simpa using hl
  omega
 ·rw [c3, List.append_assoc, List.take_append_of_le_length (by simp; omega), List.take_take]
  congr 1
  omega
def RowIn {α : Type} (w : World) (g : Nat) (t : TypeId) (enc : α → List Value) (k : Nat) (j0 j1 : Nat) (xs : List α) (C : Array Value) : Prop :=
 w.heap[g]? = some (.cells C t (0, 0)) ∧ xs.length * k ≤ C.size ∧ ∀ j x, j0 ≤ j → j < j1 → xs[j]? = some x → (C.toList.drop (j * k)).take k = enc x
theorem RowIn.read {α : Type} {g : Nat} {t : TypeId} {enc : α → List Value} {k j0 j1 j : Nat} {xs : List α} {x : α} {C : Array Value} (h : RowIn w g t enc k j0 j1 xs C) (hj0 : j0 ≤ j) (hj1 : j < j1) (hx : xs[j]? = some x) :
  cellsAt w ⟨g, j * k, none⟩ k = some (enc x) := by
 obtain ⟨h1, h2, h3⟩ := h
 have hj : j < xs.length := (List.getElem?_eq_some_iff.1 hx).1
 have hle : (j + 1) * k ≤ xs.length * k := Nat.mul_le_mul_right _ hj
 rw [Nat.succ_mul] at hle
 rw [cells_row h1 (by omega), h3 j x hj0 hj1 hx]
section
variable {α : Type} {xs : List α} {enc : α → List Value} {p : α → Bool} {ap : Option Addr} {c g f : Nat} {caps : List Value} {I : Nat → World → Prop} {T : Nat → Prop} {C : Array Value}
set_option maxRecDepth 20000 in
theorem index69_c (hap : xs ≠ [] → ap = some ⟨g, 0, none⟩) (hrow : xs ≠ [] → RowIn w g 101 enc 3 0 xs.length xs C) (hlen : xs.length ≤ 1000000) (hTg : ¬ T g)
  (hI : ∀ j x W, xs[j]? = some x → I j W → callV Tryz.prog f (.agg (enc x).toArray :: caps) W fun v W' => v = .bool (p x) ∧ I (j + 1) W' ∧ Fm T W W') (h0 : I 0 w) :
  callV Tryz.prog 64 [.slice ap xs.length c, .func (.func f) #[] caps.toArray] w fun v w' => Fm T w w' ∧
   ((∃ (j : Nat) (x : α), v = .int .i64 j ∧ xs[j]? = some x ∧ p x = true ∧ (∀ y ∈ xs.take j, p y = false) ∧ I (j + 1) w') ∨ (v = .int .i64 (-1) ∧ (∀ y ∈ xs, p y = false) ∧ I xs.length w')) := by
 refine vc64 ap xs.length c _ w _ ?_
 refine ⟨fun u w' => ∃ j : Nat, j ≤ xs.length ∧ u 8 = .int .i64 j ∧ (∀ y ∈ xs.take j, p y = false) ∧ I j w' ∧ Fm T w w', fun u _ => xs.length - (intOf (u 8)).toNat, ⟨0, by omega, rfl, by simp, h0, Fm.refl _ _⟩, ?_⟩
 rintro u w3 ⟨j, hj, h8, hp, hIj, hF⟩
 change u 8 = _ at h8
 simp only [h8, vq, eqV, nilV]
 refine br_dec (fun hjn => ?_) (fun hjn => ?_)
 ·obtain ⟨x, hx⟩ : ∃ x, xs[j]? = some x := ⟨xs[j]'(by omega), by simp⟩
  have hne : xs ≠ [] := by rintro rfl; simp at hx
  have hr := hrow hne
  have hr3 : RowIn w3 g 101 enc 3 0 xs.length xs C := ⟨hF.keep hr.1 hTg, hr.2⟩
  rw [hap hne]
  simp only [addr_add, Nat.zero_add, Int.toNat_natCast, vq, eqV, nilV]
  rw [hr3.read (by omega) (by omega) hx]
  refine ⟨by omega, ?_⟩
  simp only [List.nil_append, callF_func, List.singleton_append, vq, eqV, nilV]
  refine (hI j x w3 hx hIj).mono ?_
  rintro _ w14 ⟨rfl, hI14, hF14⟩
  simp only [vq, eqV, nilV]
  cases hpx : p x with
  | true =>
   simp only [vq, eqV, nilV]
   exact ⟨hF.trans hF14, .inl ⟨j, x, rfl, hx, hpx, hp, hI14⟩⟩
  | false =>
   simp only [vq, eqV, nilV]
   rw [show IntKind.i64.wrap ((j : Int) + 1) = (j : Int) + 1 from w64 (by omega)]
   refine ⟨⟨j + 1, by omega, rfl, ?_, hI14, hF.trans hF14⟩, ?_⟩
   ·rw [List.take_add_one, hx]
    intro y hy
    simp only [List.mem_append, Option.mem_toList, Option.mem_def, Option.some.injEq] at hy
    rcases hy with hy | rfl
    ·exact hp y hy
    ·exact hpx
   ·show xs.length - ((j : Int) + 1).toNat < xs.length - (j : Int).toNat; omega
 ·have : j = xs.length := by omega
  subst this
  rw [List.take_length] at hp
  exact ⟨hF, .inr ⟨hp, hIj⟩⟩
theorem keep_take {x : α} {j : Nat} (hx : xs[j]? = some x) : (xs.take (j + 1)).filter (fun x => !p x) = (xs.take j).filter (fun x => !p x) ++ (if p x then [] else [x]) := by
 rw [List.take_add_one, hx, List.filter_append]
 cases h : p x <;> simp [h]
theorem keep_none (h : ∀ y ∈ xs, p y = false) : xs.filter (fun x => !p x) = xs := by
 rw [List.filter_eq_self]
 intro x hx
 rw [h x hx]; rfl
theorem drop_mid {A B D : List Value} {m k i : Nat} (hA : A.length = i * k) (hB : B.length = k) (hm : m < i ∨ i < m) : ((A ++ B ++ D).drop (m * k)).take k = ((A ++ (List.replicate k (Value.bool false)) ++ D).drop (m * k)).take k := by
 rcases hm with h | h
 ·have : (m + 1) * k ≤ i * k := Nat.mul_le_mul_right _ h
  rw [Nat.succ_mul] at this
  rw [List.append_assoc, List.append_assoc, List.drop_append_of_le_length (by omega), List.drop_append_of_le_length (by omega), List.take_append_of_le_length (by rw [List.length_drop]; omega), List.take_append_of_le_length (by rw [List.length_drop]; omega)]
 ·have : (i + 1) * k ≤ m * k := Nat.mul_le_mul_right _ h
  rw [Nat.succ_mul] at this
  have e1 : (A ++ B).drop (m * k) = [] := List.drop_eq_nil_of_le (by rw [List.length_append]; omega)
  have e2 : (A ++ List.replicate k (Value.bool false)).drop (m * k) = [] := List.drop_eq_nil_of_le (by rw [List.length_append, List.length_replicate]; omega)
  rw [List.drop_append (l₁ := A ++ B), List.drop_append (l₁ := A ++ List.replicate k (Value.bool false)), e1, e2]
  simp [hA, hB]
theorem mid_other {C' B : List Value} {m k i : Nat} (hi : i * k + k ≤ C'.length) (hB : B.length = k) (hm : m < i ∨ i < m) : ((C'.take (i * k) ++ B ++ C'.drop (i * k + k)).drop (m * k)).take k = (C'.drop (m * k)).take k := by
 have hA : (C'.take (i * k)).length = i * k := by rw [List.length_take]; omega
 have e : C' = C'.take (i * k) ++ (C'.drop (i * k)).take k ++ C'.drop (i * k + k) := by
  rw [List.append_assoc, ← List.drop_drop, List.take_append_drop, List.take_append_drop]
 rw [drop_mid hA hB hm]
 conv => rhs; rw [e]
 exact (drop_mid hA (by rw [List.length_take, List.length_drop]; omega) hm).symm
theorem mid_same {C' B : List Value} {k i : Nat} (hi : i * k + k ≤ C'.length) (hB : B.length = k) : ((C'.take (i * k) ++ B ++ C'.drop (i * k + k)).drop (i * k)).take k = B := by
 have hA : (C'.take (i * k)).length = i * k := by rw [List.length_take]; omega
 rw [List.append_assoc, List.drop_append_of_le_length (by omega), List.drop_eq_nil_of_le (by omega), List.nil_append, List.take_append_of_le_length (by omega), List.take_of_length_le (by omega)]
set_option maxRecDepth 20000 in
set_option maxHeartbeats 1000000 in
theorem delete41_c (hap : xs ≠ [] → ap = some ⟨g, 0, none⟩) (hrow : xs ≠ [] → RowIn w g 101 enc 3 0 xs.length xs C) (hlen : xs.length ≤ 1000000) (hcap : xs.length ≤ c) (hTg : ¬ T g) (hT : ∀ i, T i → i < w.heap.size)
  (h3 : ∀ x, (enc x).length = 3) (h1 : ∀ x ∈ xs, ∀ v ∈ enc x, v.oneCell' = true)
  (hst : ∀ j W W', I j W → (∃ C, W'.heap[g]? = some (.cells C 101 (0, 0))) → Fm (fun i => i = g) W W' → I j W')
  (hI : ∀ j x W, xs[j]? = some x → I j W → callV Tryz.prog f (.agg (enc x).toArray :: caps) W fun v W' => v = .bool (p x) ∧ I (j + 1) W' ∧ Fm T W W') (h0 : I 0 w) :
  callV Tryz.prog 32 [.slice ap xs.length c, .func (.func f) #[] caps.toArray] w fun v w' => v = .slice ap (xs.filter fun x => !p x).length c ∧ I xs.length w' ∧ Fm (fun i => T i ∨ i = g ∧ xs ≠ []) w w' ∧
   (xs ≠ [] → ∃ C', C'.size = C.size ∧ RowIn w' g 101 enc 3 0 xs.length (xs.filter fun x => !p x) C') := by
 refine vc32 ap xs.length c _ w _ ?_
 refine (index69_c hap hrow hlen hTg hI h0).mono ?_
 rintro _ w1 ⟨hF1, h⟩
 rcases h with ⟨j0, x0, rfl, hx0, hp0, hpre, hI1⟩ | ⟨rfl, hall, hI1⟩
 case inr =>
  simp only [vq, eqV, nilV]
  refine br_dec (fun _ => ?_) (fun h => absurd trivial h)
  rw [keep_none hall]
  refine ⟨rfl, hI1, hF1.mono fun i _ h => .inl h, fun hne => ⟨C, rfl, ?_⟩⟩
  exact ⟨hF1.keep (hrow hne).1 hTg, (hrow hne).2⟩
 have hne : xs ≠ [] := by rintro rfl; simp at hx0
 have hr := hrow hne
 have hj0 : j0 < xs.length := (List.getElem?_eq_some_iff.1 hx0).1
 obtain rfl := hap hne
 simp only [vq, eqV, nilV]
 refine br_dec (fun h => by omega) (fun _ => ?_)
 rw [show IntKind.i64.wrap ((j0 : Int) + 1) = ((j0 + 1 : Nat) : Int) from (w64 (by omega)).trans (by omega)]
 have hk0 : (xs.take j0).filter (fun x => !p x) = xs.take j0 := keep_none hpre
 have hk1 : (xs.take (j0 + 1)).filter (fun x => !p x) = xs.take j0 := by rw [keep_take hx0, hk0, hp0]; simp
 have hgz : g < w.heap.size := lt_of_blk hr.1
 refine ⟨fun u w' => ∃ (i j : Nat) (C' : Array Value), u 5 = .int .i64 i ∧ u 6 = .int .i64 j ∧ i < j ∧ j ≤ xs.length ∧ i = ((xs.take j).filter fun x => !p x).length ∧ I j w' ∧ Fm (fun i => T i ∨ i = g ∧ xs ≠ []) w w' ∧
   w'.heap[g]? = some (.cells C' 101 (0, 0)) ∧ C'.size = C.size ∧ (∀ m x, ((xs.take j).filter fun x => !p x)[m]? = some x → (C'.toList.drop (m * 3)).take 3 = enc x) ∧ (∀ m x, j ≤ m → xs[m]? = some x → (C'.toList.drop (m * 3)).take 3 = enc x),
  fun u _ => xs.length - (intOf (u 6)).toNat, ?_, ?_⟩
 ·refine ⟨j0, j0 + 1, C, rfl, rfl, by omega, by omega, by rw [hk1, List.length_take]; omega, hI1, hF1.mono fun i _ h => .inl h, hF1.keep hr.1 hTg, rfl, ?_, fun m x hm hx => hr.2.2 m x (by omega) (List.getElem?_eq_some_iff.1 hx).1 hx⟩
  intro m x hx
  rw [hk1] at hx
  have hm := (List.getElem?_eq_some_iff.1 hx).1
  rw [List.length_take] at hm
  rw [List.getElem?_take_of_lt (by omega)] at hx
  exact hr.2.2 m x (by omega) (by omega) hx
 rintro u w6 ⟨i, j, C', h5, h6, hij, hjn, hi, hIj, hF, hb, hCs, hlo, hhi⟩
 change u 5 = _ at h5
 change u 6 = _ at h6
 simp only [h5, h6, vq, eqV, nilV]
 refine br_dec (fun hlt => ?_) (fun hge => ?_)
 ·obtain ⟨x, hx⟩ : ∃ x, xs[j]? = some x := ⟨xs[j]'(by omega), by simp⟩
  refine ⟨by omega, ?_⟩
  simp only [addr_add, Nat.zero_add, Int.toNat_natCast]
  have hCn : xs.length * 3 ≤ C'.size := by rw [hCs]; exact hr.2.1
  rw [cells_row hb (by omega), hhi j x (Nat.le_refl _) hx]
  simp only [vq, eqV, nilV]
  refine allocC_of fun w13 hb13 hs13 hf13 => ?_
  refine rd_of (v := ()) (by rw [h3 x]; rfl) ?_
  refine stC_all hb13 (by rw [h3 x]; rfl) (h1 x (List.mem_of_getElem? hx)) fun w14 hb14 hf14 => ?_
  refine rd_of (cells_all hb14 (by simp [h3 x])) ?_
  have hF14 : Fm none' w6 w14 := hf13.trans' hf14 fun i hi e => by omega
  have hgz6 := hF.size
  simp only [List.nil_append, callF_func, List.singleton_append]
  refine (hI j x w14 hx (hst j w6 w14 hIj ⟨_, hF14.keep hb id⟩ (hF14.mono fun _ _ h => h.elim))).mono ?_
  rintro _ w20 ⟨rfl, hI20, hF20⟩
  simp only [vq, eqV, nilV]
  have hb20 : w20.heap[g]? = some (.cells C' 101 (0, 0)) := hF20.keep (hF14.keep hb id) hTg
  have hn20 : w20.heap[w6.heap.size]? = some (.cells (enc x).toArray 101 (0, 0)) := hF20.keep hb14 fun h => by have := hT _ h; omega
  have hFw20 : Fm (fun i => T i ∨ i = g ∧ xs ≠ []) w w20 := (hF.trans' hF14 fun _ _ h => h.elim).trans' hF20 fun i _ h => .inl h
  cases hpx : p x with
  | true =>
   simp only [vq, eqV, nilV, Bool.not_true]
   rw [show IntKind.i64.wrap ((j : Int) + 1) = ((j + 1 : Nat) : Int) from (w64 (by omega)).trans (by omega)]
   have hk : (xs.take (j + 1)).filter (fun x => !p x) = (xs.take j).filter (fun x => !p x) := by rw [keep_take hx, hpx]; simp
   refine ⟨⟨i, j + 1, C', rfl, rfl, by omega, by omega, by rw [hk]; exact hi, hI20, hFw20, hb20, hCs, by rw [hk]; exact hlo, fun m y hm hy => hhi m y (by omega) hy⟩, ?_⟩
   show xs.length - ((j + 1 : Nat) : Int).toNat < xs.length - (j : Int).toNat
   omega
  | false =>
   simp only [vq, eqV, nilV, Bool.not_false]
   refine rd_of (cells_all hn20 (by simp [h3 x])) ⟨by omega, rd_of (v := ()) (by simp [h3 x, gd]) ?_⟩
   refine stC_at hb20 (by simp [h3 x]; omega) (by simpa using h1 x (List.mem_of_getElem? hx)) fun w25 hb25 hf25 => ?_
   rw [show IntKind.i64.wrap ((j : Int) + 1) = ((j + 1 : Nat) : Int) from (w64 (by omega)).trans (by omega), show IntKind.i64.wrap ((i : Int) + 1) = ((i + 1 : Nat) : Int) from (w64 (by omega)).trans (by omega)]
   have hk : (xs.take (j + 1)).filter (fun x => !p x) = (xs.take j).filter (fun x => !p x) ++ [x] := by rw [keep_take hx, hpx]; simp
   simp only [h3 x] at hb25
   have hCl : i * 3 + 3 ≤ C'.toList.length := by simp; omega
   refine ⟨⟨i + 1, j + 1, _, rfl, rfl, by omega, by omega, by rw [hk, List.length_append, ← hi]; rfl, hst _ _ _ hI20 ⟨_, hb25⟩ hf25, hFw20.trans' hf25 fun i _ h => .inr ⟨h, hne⟩, hb25, ?_, ?_, ?_⟩, ?_⟩
   ·simp [h3 x]; omega
   ·intro m y hy
    rw [hk] at hy
    by_cases hm : m < i
    ·rw [List.getElem?_append_left (by omega)] at hy
     simp only []
     rw [mid_other hCl (h3 x) (.inl hm)]
     exact hlo m y hy
    ·have hml := (List.getElem?_eq_some_iff.1 hy).1
     rw [List.length_append, ← hi] at hml
     obtain rfl : m = i := by simp at hml; omega
     rw [List.getElem?_append_right (by omega), ← hi] at hy
     simp at hy
     subst hy
     exact mid_same hCl (h3 x)
   ·intro m y hm hy
    simp only []
    rw [mid_other hCl (h3 x) (.inr (by omega))]
    exact hhi m y (by omega) hy
   ·show xs.length - ((j + 1 : Nat) : Int).toNat < xs.length - (j : Int).toNat
    omega
 ·have hj : j = xs.length := by omega
  subst hj
  rw [List.take_length] at hi hlo
  refine sliceAt_loS (by rw [row66]) row101 (by omega) (by omega) ?_
  simp only [vq, eqV, nilV]
  rw [if_neg (by omega)]
  simp only [Option.map_some, addr_add, Nat.zero_add, Int.toNat_natCast]
  have hCn : xs.length * 3 ≤ C'.size := by rw [hCs]; exact hr.2.1
  refine clear_S (by rw [row66]) row101 hb (by omega) (show i * 3 + (xs.length - i) * 3 ≤ C'.size by omega) (by intro v hv; change v ∈ [Value.int .u16 0, .int .u32 0, .slice none 0 0] at hv; simp at hv; rcases hv with rfl | rfl | rfl <;> rfl) (show 0 < 3 by omega) fun w36 C36 hb36 hs36 ht36 hf36 => ?_
  refine sliceAt_hiS (by rw [row66]) row101 (by omega) (by omega) ?_
  simp only [vq, eqV, nilV]
  rw [if_neg (by omega)]
  simp only [Option.map_some, addr_add, Nat.zero_add, Int.toNat_natCast]
  refine ⟨by rw [hi], hst _ _ _ hIj ⟨_, hb36⟩ hf36, hF.trans' hf36 fun i _ h => .inr ⟨h, hne⟩, fun _ => ⟨C36, by omega, hb36, ?_, ?_⟩⟩
  ·rw [← hi]; omega
  ·intro m y _ _ hy
   have hm := (List.getElem?_eq_some_iff.1 hy).1
   rw [← hi] at hm
   have hmi : m * 3 + 3 ≤ i * 3 := by omega
   rw [← hlo m y hy]
   have e : ∀ L : List Value, (L.drop (m * 3)).take 3 = ((L.take (i * 3)).drop (m * 3)).take 3 := fun L => by
    rw [List.drop_take, List.take_take, Nat.min_eq_left (by omega)]
   rw [e C36.toList, ht36, ← e]
end
section
variable {α : Type} {xs : List α} {ad : α → Addr} {p : α → Bool} {ap : Option Addr} {c g f : Nat} {caps : List Value} {J : World → Prop} {C : Array Value}
def ptr1 (ad : α → Addr) (x : α) : List Value := [.pointer (some (ad x))]
theorem RowIn.cell1 {g : Nat} {t : TypeId} {j0 j1 j : Nat} {x : α} (h : RowIn w g t (ptr1 ad) 1 j0 j1 xs C) (hj0 : j0 ≤ j) (hj1 : j < j1) (hx : xs[j]? = some x) : w.cell? ⟨g, j, none⟩ = some (.pointer (some (ad x))) := by
 have hr := h.read hj0 hj1 hx
 rw [Nat.mul_one] at hr
 have := (cellsAt_length hr).2 0 (.pointer (some (ad x))) rfl
 rwa [addr_add, Nat.add_zero] at this
set_option maxRecDepth 20000 in
theorem index71_c (hap : xs ≠ [] → ap = some ⟨g, 0, none⟩) (hrow : xs ≠ [] → RowIn w g 75 (ptr1 ad) 1 0 xs.length xs C) (hlen : xs.length ≤ 1000000)
  (hI : ∀ x ∈ xs, callV Tryz.prog f (.pointer (some (ad x)) :: caps) w fun v W' => v = .bool (p x) ∧ W' = w) :
  callV Tryz.prog 66 [.slice ap xs.length c, .func (.func f) #[] caps.toArray] w fun v w' => w' = w ∧
   ((∃ (j : Nat) (x : α), v = .int .i64 j ∧ xs[j]? = some x ∧ p x = true ∧ (∀ y ∈ xs.take j, p y = false)) ∨ (v = .int .i64 (-1) ∧ (∀ y ∈ xs, p y = false))) := by
 refine vc66 ap xs.length c _ w _ ?_
 refine ⟨fun u w' => ∃ j : Nat, j ≤ xs.length ∧ u 8 = .int .i64 j ∧ (∀ y ∈ xs.take j, p y = false) ∧ w' = w, fun u _ => xs.length - (intOf (u 8)).toNat, ⟨0, by omega, rfl, by simp, rfl⟩, ?_⟩
 rintro u w ⟨j, hj, h8, hp, rfl⟩
 change u 8 = _ at h8
 simp only [h8, vq, eqV, nilV]
 refine br_dec (fun hjn => ?_) (fun hjn => ?_)
 ·obtain ⟨x, hx⟩ : ∃ x, xs[j]? = some x := ⟨xs[j]'(by omega), by simp⟩
  have hne : xs ≠ [] := by rintro rfl; simp at hx
  have hr := hrow hne
  rw [hap hne]
  simp only [addr_add, Nat.zero_add, Int.toNat_natCast, Nat.mul_one, hr.cell1 (Nat.zero_le _) (show j < xs.length by omega) hx, vq, eqV, nilV]
  refine ⟨by omega, ?_⟩
  simp only [List.nil_append, callF_func, List.singleton_append, vq, eqV, nilV]
  refine (hI x (List.mem_of_getElem? hx)).mono ?_
  rintro _ w14 ⟨rfl, rfl⟩
  simp only [vq, eqV, nilV]
  cases hpx : p x with
  | true =>
   simp only [vq, eqV, nilV]
   exact .inl ⟨j, x, rfl, hx, hpx, hp⟩
  | false =>
   simp only [vq, eqV, nilV]
   rw [show IntKind.i64.wrap ((j : Int) + 1) = (j : Int) + 1 from w64 (by omega)]
   refine ⟨⟨j + 1, by omega, rfl, ?_, rfl⟩, ?_⟩
   ·rw [List.take_add_one, hx]
    intro y hy
    simp only [List.mem_append, Option.mem_toList, Option.mem_def, Option.some.injEq] at hy
    rcases hy with hy | rfl
    ·exact hp y hy
    ·exact hpx
   ·show xs.length - ((j : Int) + 1).toNat < xs.length - (j : Int).toNat; omega
 ·have : j = xs.length := by omega
  subst this
  rw [List.take_length] at hp
  exact .inr hp
set_option maxRecDepth 20000 in
set_option maxHeartbeats 1000000 in
theorem delete45_c (hap : xs ≠ [] → ap = some ⟨g, 0, none⟩) (hrow : xs ≠ [] → RowIn w g 75 (ptr1 ad) 1 0 xs.length xs C) (hlen : xs.length ≤ 1000000) (hcap : xs.length ≤ c)
  (hst : ∀ W W', J W → Fm (fun i => i = g) W W' → J W')
  (hI : ∀ x ∈ xs, ∀ W, J W → callV Tryz.prog f (.pointer (some (ad x)) :: caps) W fun v W' => v = .bool (p x) ∧ W' = W) (h0 : J w) :
  callV Tryz.prog 36 [.slice ap xs.length c, .func (.func f) #[] caps.toArray] w fun v w' => v = .slice ap (xs.filter fun x => !p x).length c ∧ Fm (fun i => i = g ∧ xs ≠ []) w w' ∧
   (xs ≠ [] → ∃ C', C'.size = C.size ∧ RowIn w' g 75 (ptr1 ad) 1 0 xs.length (xs.filter fun x => !p x) C') := by
 refine vc36 ap xs.length c _ w _ ?_
 refine (index71_c hap hrow hlen fun x hx => hI x hx w h0).mono ?_
 rintro _ w ⟨rfl, h⟩
 rcases h with ⟨j0, x0, rfl, hx0, hp0, hpre⟩ | ⟨rfl, hall⟩
 case inr =>
  simp only [vq, eqV, nilV]
  refine br_dec (fun _ => ?_) (fun h => absurd trivial h)
  rw [keep_none hall]
  exact ⟨rfl, Fm.refl _ _, fun hne => ⟨C, rfl, hrow hne⟩⟩
 have hne : xs ≠ [] := by rintro rfl; simp at hx0
 have hr := hrow hne
 have h3 : ∀ x, (ptr1 ad x).length = 1 := fun _ => rfl
 have hj0 : j0 < xs.length := (List.getElem?_eq_some_iff.1 hx0).1
 obtain rfl := hap hne
 simp only [vq, eqV, nilV]
 refine br_dec (fun h => by omega) (fun _ => ?_)
 rw [show IntKind.i64.wrap ((j0 : Int) + 1) = ((j0 + 1 : Nat) : Int) from (w64 (by omega)).trans (by omega)]
 have hk0 : (xs.take j0).filter (fun x => !p x) = xs.take j0 := keep_none hpre
 have hk1 : (xs.take (j0 + 1)).filter (fun x => !p x) = xs.take j0 := by rw [keep_take hx0, hk0, hp0]; simp
 have hgz : g < w.heap.size := lt_of_blk hr.1
 have hr2 : ∀ m x, m < xs.length → xs[m]? = some x → (C.toList.drop m).take 1 = ptr1 ad x := fun m x hm hx => by
  have := hr.2.2 m x (Nat.zero_le _) hm hx
  rwa [Nat.mul_one] at this
 refine ⟨fun u w' => ∃ (i j : Nat) (C' : Array Value), u 5 = .int .i64 i ∧ u 6 = .int .i64 j ∧ i < j ∧ j ≤ xs.length ∧ i = ((xs.take j).filter fun x => !p x).length ∧ J w' ∧ Fm (fun i => i = g) w w' ∧
   w'.heap[g]? = some (.cells C' 75 (0, 0)) ∧ C'.size = C.size ∧ (∀ m x, ((xs.take j).filter fun x => !p x)[m]? = some x → (C'.toList.drop m).take 1 = ptr1 ad x) ∧ (∀ m x, j ≤ m → xs[m]? = some x → (C'.toList.drop m).take 1 = ptr1 ad x),
  fun u _ => xs.length - (intOf (u 6)).toNat, ?_, ?_⟩
 ·refine ⟨j0, j0 + 1, C, rfl, rfl, by omega, by omega, by rw [hk1, List.length_take]; omega, h0, Fm.refl _ _, hr.1, rfl, ?_, fun m x hm hx => hr2 m x (List.getElem?_eq_some_iff.1 hx).1 hx⟩
  intro m x hx
  rw [hk1] at hx
  have hm := (List.getElem?_eq_some_iff.1 hx).1
  rw [List.length_take] at hm
  rw [List.getElem?_take_of_lt (by omega)] at hx
  exact hr2 m x (by omega) hx
 rintro u w6 ⟨i, j, C', h5, h6, hij, hjn, hi, hJ, hF, hb, hCs, hlo, hhi⟩
 change u 5 = _ at h5
 change u 6 = _ at h6
 simp only [h5, h6, vq, eqV, nilV]
 have hCn : xs.length * 1 ≤ C'.size := by rw [hCs]; exact hr.2.1
 refine br_dec (fun hlt => ?_) (fun hge => ?_)
 ·obtain ⟨x, hx⟩ : ∃ x, xs[j]? = some x := ⟨xs[j]'(by omega), by simp⟩
  refine ⟨by omega, ?_⟩
  simp only [addr_add, Nat.zero_add, Int.toNat_natCast]
  have hcj : w6.cell? ⟨g, j, none⟩ = some (.pointer (some (ad x))) := by
   have h := hhi j x (Nat.le_refl _) hx
   refine cellOf hb ?_
   have h0 := congrArg (·[0]?) h
   simp only [List.getElem?_take_of_lt (show 0 < 1 by omega), List.getElem?_drop, Nat.add_zero, ptr1, List.getElem?_cons_zero] at h0
   simpa using h0
  simp only [hcj, vq, eqV, nilV]
  simp only [List.nil_append, callF_func, List.singleton_append]
  refine (hI x (List.mem_of_getElem? hx) w6 hJ).mono ?_
  rintro _ w6 ⟨rfl, rfl⟩
  simp only [vq, eqV, nilV]
  cases hpx : p x with
  | true =>
   simp only [vq, eqV, nilV, Bool.not_true]
   rw [show IntKind.i64.wrap ((j : Int) + 1) = ((j + 1 : Nat) : Int) from (w64 (by omega)).trans (by omega)]
   have hk : (xs.take (j + 1)).filter (fun x => !p x) = (xs.take j).filter (fun x => !p x) := by rw [keep_take hx, hpx]; simp
   refine ⟨⟨i, j + 1, C', rfl, rfl, by omega, by omega, by rw [hk]; exact hi, hJ, hF, hb, hCs, by rw [hk]; exact hlo, fun m y hm hy => hhi m y (by omega) hy⟩, ?_⟩
   show xs.length - ((j + 1 : Nat) : Int).toNat < xs.length - (j : Int).toNat
   omega
  | false =>
   simp only [vq, eqV, nilV, Bool.not_false]
   refine ⟨by omega, ?_⟩
   refine stC_at hb (by simp; omega) (by simp [Value.oneCell']) fun w25 hb25 hf25 => ?_
   rw [show IntKind.i64.wrap ((j : Int) + 1) = ((j + 1 : Nat) : Int) from (w64 (by omega)).trans (by omega), show IntKind.i64.wrap ((i : Int) + 1) = ((i + 1 : Nat) : Int) from (w64 (by omega)).trans (by omega)]
   have hk : (xs.take (j + 1)).filter (fun x => !p x) = (xs.take j).filter (fun x => !p x) ++ [x] := by rw [keep_take hx, hpx]; simp
   have hCl : i * 1 + 1 ≤ C'.toList.length := by simp; omega
   have hb25' : w25.heap[g]? = some (.cells (C'.toList.take (i * 1) ++ ptr1 ad x ++ C'.toList.drop (i * 1 + 1)).toArray 75 (0, 0)) := by rw [Nat.mul_one]; exact hb25
   refine ⟨⟨i + 1, j + 1, _, rfl, rfl, by omega, by omega, by rw [hk, List.length_append, ← hi]; rfl, hst _ _ hJ hf25, hF.trans hf25, hb25', ?_, ?_, ?_⟩, ?_⟩
   ·simp [ptr1]; omega
   ·intro m y hy
    rw [hk] at hy
    by_cases hm : m < i
    ·rw [List.getElem?_append_left (by omega)] at hy
     have := mid_other (m := m) hCl (h3 x) (.inl hm)
     rw [Nat.mul_one m] at this
     exact this.trans (hlo m y hy)
    ·have hml := (List.getElem?_eq_some_iff.1 hy).1
     rw [List.length_append, ← hi] at hml
     obtain rfl : m = i := by simp at hml; omega
     rw [List.getElem?_append_right (by omega), ← hi] at hy
     simp at hy
     subst hy
     have := mid_same hCl (h3 x)
     rw [Nat.mul_one m] at this
     rw [Nat.mul_one m]
     exact this
   ·intro m y hm hy
    have := mid_other (m := m) hCl (h3 x) (.inr (by omega))
    rw [Nat.mul_one m] at this
    exact this.trans (hhi m y (by omega) hy)
   ·show xs.length - ((j + 1 : Nat) : Int).toNat < xs.length - (j : Int).toNat
    omega
 ·have hj : j = xs.length := by omega
  subst hj
  rw [List.take_length] at hi hlo
  refine sliceAt_loS (by rw [row65]) row75 (by omega) (by omega) ?_
  simp only [vq, eqV, nilV]
  rw [if_neg (by omega)]
  simp only [Option.map_some, addr_add, Nat.zero_add, Int.toNat_natCast, Nat.mul_one]
  refine clear_S (by rw [row65]) row75 hb (by omega) (show i + (xs.length - i) * 1 ≤ C'.size by omega) (by intro v hv; change v ∈ [Value.pointer none] at hv; simp at hv; subst hv; rfl) (show 0 < 1 by omega) fun w36 C36 hb36 hs36 ht36 hf36 => ?_
  refine sliceAt_hiS (by rw [row65]) row75 (by omega) (by omega) ?_
  simp only [vq, eqV, nilV]
  rw [if_neg (by omega)]
  simp only [Option.map_some, addr_add, Nat.zero_add, Int.toNat_natCast]
  refine ⟨by rw [hi], (hF.trans hf36).mono fun i _ h => ⟨h, hne⟩, fun _ => ⟨C36, by omega, hb36, ?_, ?_⟩⟩
  ·rw [← hi]; omega
  ·intro m y _ _ hy
   have hm := (List.getElem?_eq_some_iff.1 hy).1
   rw [← hi] at hm
   have hmi : m * 1 + 1 ≤ i := by omega
   rw [← hlo m y hy, Nat.mul_one]
   have e : ∀ L : List Value, (L.drop m).take 1 = ((L.take i).drop m).take 1 := fun L => by
    rw [List.drop_take, List.take_take, Nat.min_eq_left (by omega)]
   rw [e C36.toList, ht36, ← e]
end
end Go.Proofs.YtipikchkbmgloaaGreatDoor
namespace Go.Proofs.YtipikchkbmgloaaGreatDoor
set_option linter.unusedSimpArgs false
set_option linter.unusedVariables false
open Go Go.RowKit VC
variable {w : World}
structure Ent where
 seq : Nat
 now : Nat
 ids : List Nat
structure Ch where
 next : Nat
 pushed : Nat
 wait : List (Nat × Msg)
 sent : List Ent
 win : Win
 rtt : Nat
 timed : Bool
 heard : Nat
def newC : Ch := ⟨0, 0, [], [], ⟨false, 0, 0⟩, 0, false, 0⟩
def pushC (c : Ch) (m : Msg) : Int × Ch :=
 if rightM m = false then (1, c)
 else if c.wait.length = 64 then (5, c)
 else (0, { c with wait := c.wait ++ [(c.pushed, m)], pushed := c.pushed + 1 })
def packDg (c : Ch) (l : List Msg) : Dg := ⟨c.next, c.win.any, if c.win.any then c.win.last else 0, if c.win.any then c.win.bits else 0, l⟩
def fitN (d : Dg) : List Msg → Nat
 | [] => 0
 | m :: ms => if (encD { d with list := d.list ++ [m] }).2 = 0 then fitN { d with list := d.list ++ [m] } ms + 1 else 0
def packC (c : Ch) (l : List Msg) (now : Nat) : (List Int × Int) × Ch :=
 if (encD (packDg c l)).2 ≠ 0 then (([], (encD (packDg c l)).2), c)
 else (((encD { packDg c l with list := l ++ (c.wait.map (·.2)).take (fitN (packDg c l) (c.wait.map (·.2))) }).1, 0),
  { c with sent := c.sent ++ [⟨c.next, now, (c.wait.map (·.1)).take (fitN (packDg c l) (c.wait.map (·.2)))⟩], next := (c.next + 1) % 65536 })
def goneE (d : Dg) (e : Ent) : Bool := d.any && ackW d.last d.bits e.seq
def tookN (now then' : Nat) : Nat := if then' < now then min (now - then') 1000 else 0
def stepE (d : Dg) (now : Nat) (s : Nat × Bool) (e : Ent) : Nat × Bool :=
 if goneE d e then (if s.2 then (7 * s.1 + tookN now e.now + 4) / 8 else tookN now e.now, true) else s
def unpackC (c : Ch) (ys : List Int) (now : Nat) : (List Msg × Int) × Ch :=
 if (decD ys).2 ≠ 0 then (([], (decD ys).2), c)
 else if (accW c.win (decD ys).1.seq).1 = false then (([], 7), c)
 else (((decD ys).1.list, 0),
  { c with
   win := (accW c.win (decD ys).1.seq).2, heard := now,
   rtt := (c.sent.foldl (stepE (decD ys).1 now) (c.rtt, c.timed)).1, timed := (c.sent.foldl (stepE (decD ys).1 now) (c.rtt, c.timed)).2,
   sent := c.sent.filter fun e => !goneE (decD ys).1 e,
   wait := c.wait.filter fun x => !(c.sent.any fun e => goneE (decD ys).1 e && decide (x.1 ∈ e.ids)) })
theorem own_rowIn {α : Type} {enc : α → List Value} {k base t : Nat} {v : Value} {xs : List α} (hk : ∀ x, (enc x).length = k) (h : w.ownsRow base t k v xs.length (xs.flatMap enc)) (hne : xs ≠ []) :
  ∃ g cap C, v = .slice (some ⟨g, 0, none⟩) xs.length cap ∧ base ≤ g ∧ RowIn w g t enc k 0 xs.length xs C ∧ xs.length ≤ cap ∧ cap ≤ maxLen ∧ C.size = cap * k := by
 rcases h.2 with ⟨rfl, h0⟩ | ⟨g, cap, C, rfl, hg, hb, hc, hm, hs, ht⟩
 ·exact absurd (List.length_eq_zero_iff.1 h0) hne
 ·refine ⟨g, cap, C, rfl, hg, ⟨hb, by rw [hs]; exact Nat.mul_le_mul_right _ hc, fun j x _ hj hx => ?_⟩, hc, hm, hs⟩
  have hle : (j + 1) * k ≤ xs.length * k := Nat.mul_le_mul_right _ hj
  rw [Nat.succ_mul] at hle
  have e : (C.toList.drop (j * k)).take k = ((C.toList.take (xs.length * k)).drop (j * k)).take k := by
   rw [List.drop_take, List.take_take, Nat.min_eq_left (by omega)]
  rw [e, ht]
  exact flatD_at hk xs j x hx
theorem rowIn_own {α : Type} {enc : α → List Value} {k base t g cap : Nat} {xs : List α} {C : Array Value} {n : Nat} (hk : ∀ x, (enc x).length = k) (h : RowIn w g t enc k 0 n xs C) (hn : xs.length ≤ n) (hb : base ≤ g) (hc : xs.length ≤ cap) (hm : cap ≤ maxLen) (hs : C.size = cap * k) :
  w.ownsRow base t k (.slice (some ⟨g, 0, none⟩) xs.length cap) xs.length (xs.flatMap enc) := by
 refine ⟨flatD_len hk xs, .inr ⟨g, cap, C, rfl, hb, h.1, hc, hm, hs, ?_⟩⟩
 have key : ∀ m, m ≤ xs.length → C.toList.take (m * k) = (xs.take m).flatMap enc := by
  intro m
  induction m with
  | zero => intro _; simp
  | succ m ih =>
   intro hm'
   obtain ⟨x, hx⟩ : ∃ x, xs[m]? = some x := ⟨xs[m]'(by omega), by simp⟩
   rw [List.take_add_one, hx, Option.toList_some, List.flatMap_append, Nat.succ_mul, List.take_add, ih (by omega), h.2.2 m x (Nat.zero_le _) (by omega) hx]
   simp
 have := key xs.length (Nat.le_refl _)
 rwa [List.take_length] at this
def adOf (bl : Nat → Nat) (i : Nat) : Addr := ⟨bl i, 0, none⟩
def ptrs (bl : Nat → Nat) (ids : List Nat) : List Value := ids.flatMap (ptr1 (adOf bl))
def entC (x : Ent × Value) : List Value := [.int .u16 x.1.seq, .int .u32 x.1.now, x.2]
def wtC (m : Msg) (q : Option Addr) (cq : Nat) (came : Bool) : List Value := msgC m q cq ++ [Value.bool came]
def OwnB (w : World) (F : Nat → Prop) (q : Option Addr) (cq : Nat) (ys : List Int) : Prop :=
 w.ownsRow 0 5 1 (.slice q ys.length cq) ys.length (ys.map (Value.int .u8)) ∧ ∀ i, (Value.slice q ys.length cq).ownBlock = some i → F i
structure HasAt (w : World) (F : Nat → Prop) (wv : Value) (bl : Nat → Nat) (n : Nat) (ids : List Nat) (h : Value) : Prop where
 own : w.ownsRow 0 75 1 h ids.length (ptrs bl ids)
 inF : ∀ i, h.ownBlock = some i → F i ∧ wv.ownBlock ≠ some i
 lt : ∀ i ∈ ids, i < n
structure Core (w : World) (F : Nat → Prop) (A : Nat) (bl : Nat → Nat) (mk : Nat → Bool) (c : Ch) (wv sv : Value) : Prop where
 box : BoxA w A (.int .u16 c.next) wv sv c.win (.int .i64 c.rtt) (.bool c.timed) (.int .u32 c.heard)
 fA : F A
 lt : ∀ i, F i → i < w.heap.size
 wok : Wok c.win
 next : c.next < 65536
 heard : c.heard < 4294967296
 rtt : c.rtt ≤ 1000
 own : w.ownsRow 0 75 1 wv c.wait.length (ptrs bl (c.wait.map (·.1)))
 fw : ∀ i, wv.ownBlock = some i → F i
 ids : ∀ i, i < c.pushed → F (bl i) ∧ ∃ cs : List Value, cs.length = 23 ∧ w.heap[bl i]? = some (.cells (cs ++ [Value.bool (mk i)]).toArray 77 (0, 0))
 inj : ∀ i j, i < c.pushed → j < c.pushed → bl i = bl j → i = j
 msgs : ∀ x ∈ c.wait, x.1 < c.pushed ∧ Rok x.2 ∧ ∃ q cq, w.heap[bl x.1]? = some (.cells (wtC x.2 q cq (mk x.1)).toArray 77 (0, 0)) ∧ OwnB w F q cq x.2.bytes
 many : c.wait.length ≤ 64
structure SentAt (w : World) (F : Nat → Prop) (bl : Nat → Nat) (n : Nat) (es : List Ent) (wv sv : Value) (hs : List Value) : Prop where
 len : hs.length = es.length
 own : w.ownsRow 0 101 3 sv es.length ((es.zip hs).flatMap entC)
 fs : ∀ i, sv.ownBlock = some i → F i
 has : ∀ (j : Nat) (e : Ent) (h : Value), es[j]? = some e → hs[j]? = some h → HasAt w F wv bl n e.ids h
 rng : ∀ e ∈ es, e.seq < 65536 ∧ e.now < 4294967296
def ChAt (w : World) (F : Nat → Prop) (A : Nat) (c : Ch) : Prop :=
 ∃ bl mk wv sv hs, Core w F A bl mk c wv sv ∧ SentAt w F bl c.pushed c.sent wv sv hs ∧ ∀ x ∈ c.wait, mk x.1 = false
theorem HasAt.keep {w w' : World} {F S : Nat → Prop} {wv : Value} {bl : Nat → Nat} {n : Nat} {ids : List Nat} {h : Value} (H : HasAt w F wv bl n ids h) (f : Fm S w w') (hS : ∀ i c, w.heap[i]? = some (.cells c 75 (0, 0)) → F i → wv.ownBlock ≠ some i → ¬ S i) : HasAt w' F wv bl n ids h := by
 obtain ⟨h1, h2, h3⟩ := H
 refine ⟨f.owns h1 fun i hi => ?_, h2, h3⟩
 obtain ⟨_, cur, hc⟩ := own_block h1 hi
 exact hS i _ hc (h2 i hi).1 (h2 i hi).2
theorem OwnB.keep {w w' : World} {F S : Nat → Prop} {q : Option Addr} {cq : Nat} {ys : List Int} (H : OwnB w F q cq ys) (f : Fm S w w') (hS : ∀ i c, w.heap[i]? = some (.cells c 5 (0, 0)) → F i → ¬ S i) : OwnB w' F q cq ys := by
 refine ⟨f.owns H.1 fun i hi => ?_, H.2⟩
 obtain ⟨_, cur, hc⟩ := own_block H.1 hi
 exact hS i _ hc (H.2 i hi)
theorem OwnB.mono {w : World} {F F' : Nat → Prop} {q : Option Addr} {cq : Nat} {ys : List Int} (H : OwnB w F q cq ys) (h : ∀ i, F i → F' i) : OwnB w F' q cq ys := ⟨H.1, fun i hi => h i (H.2 i hi)⟩
section
variable {F S : Nat → Prop} {A : Nat} {bl : Nat → Nat} {mk : Nat → Bool} {c : Ch} {wv sv : Value} {w' : World}
theorem Core.keep (h : Core w F A bl mk c wv sv) (f : Fm S w w') (hS : ∀ i C t, w.heap[i]? = some (.cells C t (0, 0)) → F i → t = 70 ∨ t = 75 ∧ wv.ownBlock = some i ∨ t = 77 ∨ t = 5 → ¬ S i) : Core w' F A bl mk c wv sv := by
 refine { h with box := f.keep h.box (hS A _ _ h.box h.fA (.inl rfl)), lt := fun i hi => Nat.lt_of_lt_of_le (h.lt i hi) f.size, own := f.owns h.own fun i hi => ?_, ids := fun i hi => ?_, msgs := fun x hx => ?_ }
 ·obtain ⟨_, cur, hc⟩ := own_block h.own hi
  exact hS i _ _ hc (h.fw i hi) (.inr (.inl ⟨rfl, hi⟩))
 ·obtain ⟨h1, cs, h2, h3⟩ := h.ids i hi
  exact ⟨h1, cs, h2, f.keep h3 (hS _ _ _ h3 h1 (.inr (.inr (.inl rfl))))⟩
 ·obtain ⟨h1, h2, q, cq, h3, h4⟩ := h.msgs x hx
  exact ⟨h1, h2, q, cq, f.keep h3 (hS _ _ _ h3 (h.ids _ h1).1 (.inr (.inr (.inl rfl)))), h4.keep f fun i C hi hF => hS i C 5 hi hF (.inr (.inr (.inr rfl)))⟩
theorem Core.turn {c' : Ch} {sv' : Value} (h : Core w F A bl mk c wv sv) (f : Fm (fun i => i = A) w w') (hw : c'.wait = c.wait) (hp : c'.pushed = c.pushed) (hb : BoxA w' A (.int .u16 c'.next) wv sv' c'.win (.int .i64 c'.rtt) (.bool c'.timed) (.int .u32 c'.heard))
  (wok : Wok c'.win) (next : c'.next < 65536) (heard : c'.heard < 4294967296) (rtt : c'.rtt ≤ 1000) : Core w' F A bl mk c' wv sv' := by
 have hA := h.box
 have ne : ∀ {i C t}, w.heap[i]? = some (.cells C t (0, 0)) → t ≠ 70 → ¬ i = A := by
  rintro i C t hi ht rfl
  rw [hA] at hi; cases hi; exact ht rfl
 refine ⟨hb, h.fA, fun i hi => Nat.lt_of_lt_of_le (h.lt i hi) f.size, wok, next, heard, rtt, ?_, h.fw, ?_, ?_, ?_, ?_⟩
 ·rw [hw]
  refine f.owns h.own fun i hi => ?_
  obtain ⟨_, cur, hc⟩ := own_block h.own hi
  exact ne hc (by decide)
 ·rw [hp]
  intro i hi
  obtain ⟨h1, cs, h2, h3⟩ := h.ids i hi
  exact ⟨h1, cs, h2, f.keep h3 (ne h3 (by decide))⟩
 ·rw [hp]; exact h.inj
 ·rw [hw, hp]
  intro x hx
  obtain ⟨h1, h2, q, cq, h3, h4⟩ := h.msgs x hx
  exact ⟨h1, h2, q, cq, f.keep h3 (ne h3 (by decide)), h4.keep f fun i C hi _ => ne hi (by decide)⟩
 ·rw [hw]; exact h.many
theorem Core.mark {k : Nat} {cs : List Value} (h : Core w F A bl mk c wv sv) (hk : k < c.pushed) (hcs : cs.length = 23) (hb : w.heap[bl k]? = some (.cells (cs ++ [Value.bool (mk k)]).toArray 77 (0, 0))) (f : Fm (fun i => i = bl k) w w')
  (hb' : w'.heap[bl k]? = some (.cells (cs ++ [Value.bool true]).toArray 77 (0, 0))) : Core w' F A bl (fun i => mk i || decide (i = k)) c wv sv := by
 have ne : ∀ {i C t}, w.heap[i]? = some (.cells C t (0, 0)) → t ≠ 77 → ¬ i = bl k := by
  rintro i C t hi ht rfl
  rw [hb] at hi; cases hi; exact ht rfl
 refine { h with box := f.keep h.box (ne h.box (by decide)), lt := fun i hi => Nat.lt_of_lt_of_le (h.lt i hi) f.size, own := f.owns h.own fun i hi => ?_, ids := fun i hi => ?_, msgs := fun x hx => ?_ }
 ·obtain ⟨_, cur, hc⟩ := own_block h.own hi
  exact ne hc (by decide)
 ·obtain ⟨h1, ds, h2, h3⟩ := h.ids i hi
  by_cases hik : i = k
  ·subst hik
   exact ⟨h1, cs, hcs, by simpa using hb'⟩
  ·refine ⟨h1, ds, h2, ?_⟩
   rw [decide_eq_false hik, Bool.or_false]
   exact f.keep h3 fun e => hik (h.inj i k hi hk e)
 ·obtain ⟨h1, h2, q, cq, h3, h4⟩ := h.msgs x hx
  refine ⟨h1, h2, q, cq, ?_, h4.keep f fun i C hi _ => ne hi (by decide)⟩
  by_cases hik : x.1 = k
  ·rw [hik] at h3 ⊢
   rw [hb] at h3
   have e : cs = msgC x.2 q cq := by
    have := congrArg (fun o => match o with | some (Obj.cells C _ _) => C.toList | _ => []) h3
    simp only [wtC, List.append_cancel_right_eq] at this
    exact this
   rw [hb', e]
   simp [wtC]
  ·rw [decide_eq_false hik, Bool.or_false]
   exact f.keep h3 fun e => hik (h.inj _ k h1 hk e)
end
end Go.Proofs.YtipikchkbmgloaaGreatDoor
namespace Go.Proofs.YtipikchkbmgloaaGreatDoor
set_option linter.unusedSimpArgs false
set_option linter.unusedVariables false
open Go Go.RowKit VC
variable {w : World}
def FNew (F : Nat → Prop) (w w' : World) : Nat → Prop := fun i => F i ∨ w.heap.size ≤ i ∧ i < w'.heap.size
theorem new15_c : callV Tryz.prog 5 [] w fun v w' => v = .pointer (some ⟨w.heap.size, 0, none⟩) ∧ ChAt w' (FNew none' w w') w.heap.size newC ∧ Fm none' w w' := by
 refine vc5 w _ ?_
 refine allocC_of fun w1 hb1 hs1 hf1 => ?_
 refine ⟨rfl, ⟨fun i => i, fun _ => false, .slice none 0 0, .slice none 0 0, [], ?_, ?_, ?_⟩, hf1⟩
 ·refine ⟨hb1, .inr ⟨Nat.le_refl _, by omega⟩, fun i hi => hi.elim (fun h => h.elim) (·.2), ⟨by decide, by decide⟩, by decide, by decide, by decide, World.ownsRow_nil _ _ _ _, (fun i hi => by cases hi), (fun i hi => by simp [newC] at hi), (fun i j hi => by simp [newC] at hi), (fun x hx => by simp [newC] at hx), by decide⟩
 ·exact ⟨rfl, World.ownsRow_nil _ _ _ _, (fun i hi => by cases hi), (fun j e h he => by simp [newC] at he), fun e he => by simp [newC] at he⟩
 ·intro x hx; simp [newC] at hx
section
variable {F : Nat → Prop} {A : Nat} {bl : Nat → Nat} {mk : Nat → Bool} {c : Ch} {wv sv : Value}
theorem Core.wvSl (h : Core w F A bl mk c wv sv) : ∃ p cp, wv = .slice p c.wait.length cp := by
 obtain ⟨p, cp, rfl, -⟩ := own_readS h.own
 exact ⟨p, cp, rfl⟩
theorem waits20_c (h : Core w F A bl mk c wv sv) : callV Tryz.prog 16 [.pointer (some ⟨A, 0, none⟩)] w fun v w' => v = .int .i64 c.wait.length ∧ w' = w := by
 refine vc16 _ w _ ?_
 obtain ⟨p, cp, rfl⟩ := h.wvSl
 have k : w.cell? ⟨A, 1, none⟩ = some (.slice p c.wait.length cp) := cellOf h.box rfl
 simp only [addr_add, Nat.zero_add, k, vq, eqV, nilV]
theorem rtt21_c (h : Core w F A bl mk c wv sv) : callV Tryz.prog 17 [.pointer (some ⟨A, 0, none⟩)] w fun v w' => v = .int .i64 c.rtt ∧ w' = w := by
 refine vc17 _ w _ ?_
 have k : w.cell? ⟨A, 6, none⟩ = some (.int .i64 c.rtt) := cellOf h.box rfl
 simp only [addr_add, Nat.zero_add, k, vq, eqV, nilV]
def sampN (s : Nat × Bool) (n : Nat) : Nat × Bool := (if s.2 then (7 * s.1 + n + 4) / 8 else n, true)
theorem sample70_c {n : Nat} (hn : n ≤ 1000) (h : Core w F A bl mk c wv sv) : callV Tryz.prog 65 [.pointer (some ⟨A, 0, none⟩), .int .i64 n] w fun v w' => v = .tuple #[] ∧
  Core w' F A bl mk { c with rtt := (sampN (c.rtt, c.timed) n).1, timed := true } wv sv ∧ Fm (fun i => i = A) w w' := by
 refine vc65 _ n w _ ?_
 have k6 : w.cell? ⟨A, 6, none⟩ = some (.int .i64 c.rtt) := cellOf h.box rfl
 have k7 : w.cell? ⟨A, 7, none⟩ = some (.bool c.timed) := cellOf h.box rfl
 simp only [addr_add, Nat.zero_add, k6, k7, vq, eqV, nilV]
 have hr := h.rtt
 cases ht : c.timed with
 | true =>
  simp only [vq, eqV, nilV]
  rw [show IntKind.i64.wrap (7 * (c.rtt : Int)) = ((7 * c.rtt : Nat) : Int) from (w64 (by omega)).trans (by omega), show IntKind.i64.wrap (((7 * c.rtt : Nat) : Int) + n) = ((7 * c.rtt + n : Nat) : Int) from (w64 (by omega)).trans (by omega),
   show IntKind.i64.wrap (((7 * c.rtt + n : Nat) : Int) + 4) = ((7 * c.rtt + n + 4 : Nat) : Int) from (w64 (by omega)).trans (by omega), Int.tdiv_eq_ediv_of_nonneg (by omega),
   show IntKind.i64.wrap (((7 * c.rtt + n + 4 : Nat) : Int) / 8) = (((7 * c.rtt + n + 4) / 8 : Nat) : Int) from (w64 (by omega)).trans (by omega)]
  refine stC_one h.box (by simp) rfl fun w4 hb4 hf4 => ?_
  refine stC_one hb4 (by simp) rfl fun w5 hb5 hf5 => ?_
  refine ⟨h.turn (hf4.trans hf5) rfl rfl ?_ h.wok h.next h.heard ?_, hf4.trans hf5⟩
  ·show BoxA _ _ _ _ _ _ (.int .i64 (((if true = true then (7 * c.rtt + n + 4) / 8 else n) : Nat) : Int)) _ _
   rw [if_pos rfl]
   exact hb5
  ·show (if true = true then (7 * c.rtt + n + 4) / 8 else n) ≤ 1000
   rw [if_pos rfl]; omega
 | false =>
  simp only [vq, eqV, nilV]
  refine stC_one h.box (by simp) rfl fun w4 hb4 hf4 => ?_
  refine stC_one hb4 (by simp) rfl fun w5 hb5 hf5 => ?_
  refine ⟨h.turn (hf4.trans hf5) rfl rfl ?_ h.wok h.next h.heard ?_, hf4.trans hf5⟩
  ·exact hb5
  ·exact hn
def Soft (A : Nat) (bl : Nat → Nat) (n : Nat) : Nat → Prop := fun i => i = A ∨ ∃ k, k < n ∧ i = bl k
theorem Core.soft (h : Core w F A bl mk c wv sv) {i : Nat} (hi : Soft A bl c.pushed i) : F i ∧ ∃ C t, w.heap[i]? = some (.cells C t (0, 0)) ∧ (t = 70 ∨ t = 77) := by
 rcases hi with rfl | ⟨k, hk, rfl⟩
 ·exact ⟨h.fA, _, _, h.box, .inl rfl⟩
 ·obtain ⟨h1, cs, h2, h3⟩ := h.ids k hk
  exact ⟨h1, _, _, h3, .inr rfl⟩
theorem Core.softno (h : Core w F A bl mk c wv sv) {i t : Nat} {C : Array Value} (hi : w.heap[i]? = some (.cells C t (0, 0))) (h1 : t ≠ 70) (h2 : t ≠ 77) : ¬ Soft A bl c.pushed i := fun hs => by
 obtain ⟨_, C', t', hc, ht⟩ := h.soft hs
 rw [hi] at hc; cases hc
 rcases ht with rfl | rfl
 ·exact h1 rfl
 ·exact h2 rfl
set_option maxRecDepth 20000 in
set_option maxHeartbeats 1000000 in
theorem came44_c {e : Ent} {hv : Value} {now : Nat} (h : Core w F A bl mk c wv sv) (hh : HasAt w F wv bl c.pushed e.ids hv) (hr : e.seq < 65536 ∧ e.now < 4294967296) (hnow : now < 4294967296) (hl : e.ids.length ≤ 1000000) :
  callV Tryz.prog 35 [.pointer (some ⟨A, 0, none⟩), .agg (entC (e, hv)).toArray, .int .u32 now] w fun v w' =>
   Core w' F A bl (fun i => mk i || decide (i ∈ e.ids)) { c with rtt := (sampN (c.rtt, c.timed) (tookN now e.now)).1, timed := true } wv sv ∧ Fm (Soft A bl c.pushed) w w' := by
 obtain ⟨p, cp, rfl, -, hread⟩ := own_readS hh.own
 refine vc35 _ e.seq e.now p e.ids.length cp now w _ ?_
 refine allocC_of fun w1 hb1 hs1 hf1 => ?_
 have k1 : w1.cell? ⟨w.heap.size, 1, none⟩ = some (.int .u32 e.now) := cellOf hb1 rfl
 simp only [k1, vq, eqV, nilV]
 have hc1 : Core w1 F A bl mk c wv sv := h.keep hf1 fun _ _ _ _ _ _ => id
 have loop : ∀ (w7 : World) (n : Nat), n ≤ 1000 → Core w7 F A bl mk { c with rtt := (sampN (c.rtt, c.timed) n).1, timed := true } wv sv → Fm (fun i => i = A) w1 w7 →
   rd (w7.cell? ⟨w.heap.size, 2, none⟩) fun v8 => isSl v8 fun o9 n10 n11 =>
   loopC (alist [(25, .int .i64 0)]) w7 fun u12 u13 => ∀ (u14 : Nat → Value) (w15 : World), u12 (alist [(25, u14 25)]) w15 → rd (orO (binV .lss (u14 25) (.int .i64 (n10 : Int))) none) fun v17 => isB v17 fun t18 =>
   br t18 (isInt (u14 25) fun k19 i20 => rd o9 fun a21 => (0 ≤ i20 ∧ i20 < (n10 : Int)) ∧ rd (w15.cell? (Addr.add a21 (Int.toNat i20))) fun v22 => isP v22 fun o23 => rd (nilChk (.pointer o23)) fun v24 =>
    isPtr v24 fun a25 => stC w15 (Addr.add a25 23) [.bool true] fun w26 => rd (orO (binV .add (u14 25) (.int .i64 1)) none) fun v27 => isK .i64 v27 fun i28 => again u12 u13 (alist [(25, .int .i64 i28)]) w26 (alist [(25, u14 25)]) w15)
   ((Core w15 F A bl (fun i => mk i || decide (i ∈ e.ids)) { c with rtt := (sampN (c.rtt, c.timed) n).1, timed := true } wv sv) ∧ Fm (Soft A bl c.pushed) w w15) := by
  intro w7 n hn hc7 hf7
  have hb7 : w7.heap[w.heap.size]? = some (.cells #[.int .u16 e.seq, .int .u32 e.now, .slice p e.ids.length cp] 101 (0, 0)) := hf7.keep hb1 (by have := h.lt A h.fA; omega)
  have k2 : w7.cell? ⟨w.heap.size, 2, none⟩ = some (.slice p e.ids.length cp) := cellOf hb7 rfl
  simp only [k2, vq, eqV, nilV]
  have hF7 : Fm (Soft A bl c.pushed) w w7 := hf1.none.trans (hf7.mono fun i _ h => .inl h)
  refine ⟨fun u w' => ∃ j : Nat, j ≤ e.ids.length ∧ u 25 = .int .i64 j ∧ Core w' F A bl (fun i => mk i || decide (i ∈ e.ids.take j)) { c with rtt := (sampN (c.rtt, c.timed) n).1, timed := true } wv sv ∧ Fm (Soft A bl c.pushed) w w', fun u _ => e.ids.length - (intOf (u 25)).toNat, ⟨0, by omega, rfl, by simpa using hc7, hF7⟩, ?_⟩
  rintro u w15 ⟨j, hj, h25, hcj, hF⟩
  change u 25 = _ at h25
  simp only [h25, vq, eqV, nilV]
  refine br_dec (fun hlt => ?_) (fun hge => ?_)
  ·obtain ⟨k, hk⟩ : ∃ k, e.ids[j]? = some k := ⟨e.ids[j]'(by omega), by simp⟩
   have hkp : (ptrs bl e.ids)[j]? = some (.pointer (some ⟨bl k, 0, none⟩)) := by
    have : ptrs bl e.ids = e.ids.map fun i => Value.pointer (some (adOf bl i)) := by
     unfold ptrs ptr1
     induction e.ids with
     | nil => rfl
     | cons x l ih => simp [List.flatMap_cons, ih]
    rw [this, List.getElem?_map, hk]; rfl
   obtain ⟨g, rfl, -, hgo, hcell⟩ := hread j _ hkp
   have hkl : k < c.pushed := hh.lt k (List.mem_of_getElem? hk)
   have hgF := hh.inF g hgo
   obtain ⟨_, cur, hgb⟩ := own_block hh.own hgo
   have hcell15 : w15.cell? ⟨g, j, none⟩ = some (.pointer (some ⟨bl k, 0, none⟩)) := hF.cell hcell (h.softno hgb (by decide) (by decide))
   simp only [addr_add, Nat.zero_add, Int.toNat_natCast, hcell15, vq, eqV, nilV]
   refine ⟨by omega, ?_⟩
   obtain ⟨h1, cs, h2, h3⟩ := hcj.ids k hkl
   refine stC_one h3 (by simp [h2]) rfl fun w26 hb26 hf26 => ?_
   have hb26' : w26.heap[bl k]? = some (.cells (cs ++ [Value.bool true]).toArray 77 (0, 0)) := by
    rw [hb26]
    congr 2
    apply Array.ext'
    simp only [Array.toList_setIfInBounds]
    rw [List.set_append_right _ _ (by omega), h2]
    rfl
   have hm := hcj.mark hkl h2 h3 hf26 hb26'
   rw [show IntKind.i64.wrap ((j : Int) + 1) = (j : Int) + 1 from w64 (by omega)]
   refine ⟨⟨j + 1, by omega, rfl, ?_, hF.trans' hf26 fun i _ e => .inr ⟨k, hkl, e⟩⟩, ?_⟩
   ·have e1 : (fun i => mk i || decide (i ∈ e.ids.take (j + 1))) = fun i => (mk i || decide (i ∈ e.ids.take j)) || decide (i = k) := by
     funext i
     rw [List.take_add_one, hk, Bool.or_assoc]
     congr 1
     simp
    rw [e1]; exact hm
   ·show e.ids.length - ((j : Int) + 1).toNat < e.ids.length - (j : Int).toNat; omega
  ·have : j = e.ids.length := by omega
   subst this
   rw [List.take_length] at hcj
   exact ⟨hcj, hF⟩
 refine br_dec (fun hlt => ?_) (fun hge => ?_)
 ·have e1 : IntKind.i64.wrap (min (IntKind.u32.wrap ((now : Int) - (e.now : Int))) 1000) = ((tookN now e.now : Nat) : Int) := by
   rw [show IntKind.u32.wrap ((now : Int) - e.now) = ((now - e.now : Nat) : Int) from (w32 (by omega)).trans (by omega), w64 (by omega)]
   unfold tookN
   rw [if_pos (by omega)]
   omega
  rw [e1]
  have ht : tookN now e.now ≤ 1000 := by unfold tookN; split <;> omega
  refine (sample70_c ht hc1).mono ?_
  rintro _ w7 ⟨rfl, hc7, hf7⟩
  exact loop w7 _ ht hc7 hf7
 ·have e1 : tookN now e.now = 0 := by unfold tookN; rw [if_neg (by omega)]
  rw [e1]
  refine (sample70_c (n := 0) (by omega) hc1).mono ?_
  rintro _ w7 ⟨rfl, hc7, hf7⟩
  exact loop w7 _ (by omega) hc7 hf7
end
end Go.Proofs.YtipikchkbmgloaaGreatDoor
namespace Go.Proofs.YtipikchkbmgloaaGreatDoor
set_option linter.unusedSimpArgs false
set_option linter.unusedVariables false
open Go Go.RowKit VC
variable {w : World}
section
variable {F : Nat → Prop} {A : Nat} {bl : Nat → Nat} {mk : Nat → Bool} {c : Ch} {wv sv : Value}
theorem del46_c {k : Nat} {b : Bool} {cs : List Value} (h2 : cs.length = 23) (h3 : w.heap[bl k]? = some (.cells (cs ++ [Value.bool b]).toArray 77 (0, 0))) : callV Tryz.prog 37 [.pointer (some (adOf bl k))] w fun v w' => v = .bool b ∧ w' = w := by
 refine vc37 _ w _ ?_
 have hc : w.cell? ⟨bl k, 23, none⟩ = some (.bool b) := cellOf h3 (by simp [h2])
 simp only [adOf, addr_add, Nat.zero_add, hc, vq, eqV, nilV]
theorem stepE_eq (d : Dg) (now : Nat) (s : Nat × Bool) (e : Ent) : stepE d now s e = if goneE d e then ((sampN s (tookN now e.now)).1, true) else s := rfl
structure Clo (w : World) (D N0 N2 A now : Nat) (d : Dg) (lv : Value) : Prop where
 d : w.heap[D]? = some (.cells #[.int .u16 d.seq, .bool d.any, .int .u16 d.last, .int .u32 d.bits, lv] 96 (0, 0))
 a : w.heap[N0]? = some (.cells #[.pointer (some ⟨A, 0, none⟩)] 24 (0, 0))
 n : w.heap[N2]? = some (.cells #[.int .u32 now] 31 (0, 0))
theorem Clo.keep {w' : World} {D N0 N2 A now : Nat} {d : Dg} {lv : Value} {S : Nat → Prop} (h : Clo w D N0 N2 A now d lv) (f : Fm S w w') (hS : ∀ i, i = D ∨ i = N0 ∨ i = N2 → ¬ S i) : Clo w' D N0 N2 A now d lv :=
 ⟨f.keep h.d (hS _ (.inl rfl)), f.keep h.a (hS _ (.inr (.inl rfl))), f.keep h.n (hS _ (.inr (.inr rfl)))⟩
theorem Clo.ty {D N0 N2 A now : Nat} {d : Dg} {lv : Value} (h : Clo w D N0 N2 A now d lv) {i : Nat} (hi : i = D ∨ i = N0 ∨ i = N2) : ∃ C t, w.heap[i]? = some (.cells C t (0, 0)) ∧ (t = 96 ∨ t = 24 ∨ t = 31) := by
 rcases hi with rfl | rfl | rfl
 ·exact ⟨_, _, h.d, .inl rfl⟩
 ·exact ⟨_, _, h.a, .inr (.inl rfl)⟩
 ·exact ⟨_, _, h.n, .inr (.inr rfl)⟩
set_option maxRecDepth 20000 in
theorem del42_c {e : Ent} {hv lv : Value} {now D N0 N2 : Nat} {d : Dg} (h : Core w F A bl mk c wv sv) (hh : HasAt w F wv bl c.pushed e.ids hv) (hr : e.seq < 65536 ∧ e.now < 4294967296) (hnow : now < 4294967296) (hl : e.ids.length ≤ 1000000)
  (hd : d.bits < 4294967296) (hc : Clo w D N0 N2 A now d lv) :
  callV Tryz.prog 33 [.agg (entC (e, hv)).toArray, .pointer (some ⟨D, 0, none⟩), .pointer (some ⟨N0, 0, none⟩), .pointer (some ⟨N2, 0, none⟩)] w fun v w' => v = .bool (goneE d e) ∧
   Core w' F A bl (fun i => mk i || (goneE d e && decide (i ∈ e.ids))) { c with rtt := (stepE d now (c.rtt, c.timed) e).1, timed := (stepE d now (c.rtt, c.timed) e).2 } wv sv ∧ Fm (Soft A bl c.pushed) w w' := by
 have hh' := hh
 obtain ⟨p, cp, rfl, -, hread⟩ := own_readS hh.own
 refine vc33 e.seq e.now p e.ids.length cp ⟨D, 0, none⟩ ⟨N0, 0, none⟩ ⟨N2, 0, none⟩ w _ ?_
 refine allocC_of fun w1 hb1 hs1 hf1 => ?_
 have hc1 : Core w1 F A bl mk c wv sv := h.keep hf1 fun _ _ _ _ _ _ => id
 have hcl := hc.keep hf1 fun _ _ => id
 have k1 : w1.cell? ⟨D, 1, none⟩ = some (.bool d.any) := cellOf hcl.d rfl
 have k2 : w1.cell? ⟨D, 2, none⟩ = some (.int .u16 d.last) := cellOf hcl.d rfl
 have k3 : w1.cell? ⟨D, 3, none⟩ = some (.int .u32 d.bits) := cellOf hcl.d rfl
 have k4 : w1.cell? ⟨w.heap.size, 0, none⟩ = some (.int .u16 e.seq) := cellOf hb1 rfl
 simp only [addr_add, Nat.zero_add, k1, k2, k3, k4, vq, eqV, nilV]
 have hno : goneE d e = false → Core w1 F A bl (fun i => mk i || (goneE d e && decide (i ∈ e.ids))) { c with rtt := (stepE d now (c.rtt, c.timed) e).1, timed := (stepE d now (c.rtt, c.timed) e).2 } wv sv := by
  intro hg
  have e1 : (fun i => mk i || (goneE d e && decide (i ∈ e.ids))) = mk := by funext i; rw [hg]; simp
  have e2 : stepE d now (c.rtt, c.timed) e = (c.rtt, c.timed) := by rw [stepE_eq, hg]; rfl
  rw [e1, e2]
  exact hc1
 cases ha : d.any with
 | false =>
  simp only [Bool.not_false, vq, eqV, nilV]
  have hg : goneE d e = false := by unfold goneE; rw [ha]; rfl
  exact ⟨by rw [hg], hno hg, hf1.none⟩
 | true =>
  simp only [Bool.not_true, vq, eqV, nilV]
  refine (acked43_c hd).mono ?_
  rintro _ w1 ⟨rfl, rfl⟩
  simp only [vq, eqV, nilV]
  have hge : goneE d e = ackW d.last d.bits e.seq := by unfold goneE; rw [ha]; rfl
  rw [← hge]
  cases hg : goneE d e with
  | false =>
   simp only [Bool.not_false, vq, eqV, nilV]
   rw [hg] at hno
   exact ⟨hno rfl, hf1.none⟩
  | true =>
   simp only [Bool.not_true, vq, eqV, nilV]
   have k5 : w1.cell? ⟨N0, 0, none⟩ = some (.pointer (some ⟨A, 0, none⟩)) := cellOf hcl.a rfl
   have k6 : w1.cell? ⟨N2, 0, none⟩ = some (.int .u32 now) := cellOf hcl.n rfl
   have k7 : cellsAt w1 ⟨w.heap.size, 0, none⟩ 3 = some (entC (e, .slice p e.ids.length cp)) := cells_all hb1 rfl
   simp only [k5, k6, k7, vq, eqV, nilV]
   refine (came44_c hc1 (hh'.keep hf1 fun _ _ _ _ _ => id) hr hnow hl).mono ?_
   rintro v19 w19 ⟨hc19, hf19⟩
   refine ⟨?_, hf1.none.trans' hf19 fun _ _ h => h⟩
   rw [stepE_eq, hg, if_pos rfl]
   have e1 : (fun i => mk i || (true && decide (i ∈ e.ids))) = fun i => mk i || decide (i ∈ e.ids) := by funext i; simp
   rw [e1]
   exact hc19
theorem zip_fst_filter {β : Type} (q : Ent → Bool) : ∀ (es : List Ent) (hs : List β), hs.length = es.length → ((es.zip hs).filter fun x => q x.1).map (·.1) = es.filter q := by
 intro es
 induction es with
 | nil => intro hs _; simp
 | cons e es ih =>
  intro hs hl
  cases hs with
  | nil => simp at hl
  | cons h hs =>
   rw [List.zip_cons_cons, List.filter_cons, List.filter_cons]
   cases hq : q e with
   | true => simp [ih hs (by simpa using hl)]
   | false => simp [ih hs (by simpa using hl)]
theorem zip_unzip {α β : Type} : ∀ (l : List (α × β)), (l.map (·.1)).zip (l.map (·.2)) = l := by
 intro l
 induction l with
 | nil => rfl
 | cons x l ih => simp [ih]
theorem entC_len (x : Ent × Value) : (entC x).length = 3 := rfl
theorem ptrs_map (bl : Nat → Nat) (ws : List (Nat × Msg)) : ptrs bl (ws.map (·.1)) = ws.flatMap (ptr1 fun x => adOf bl x.1) := by
 unfold ptrs
 rw [List.flatMap_map]; rfl
def afterE (d : Dg) (now : Nat) (c : Ch) (es : List Ent) : Ch := { c with rtt := (es.foldl (stepE d now) (c.rtt, c.timed)).1, timed := (es.foldl (stepE d now) (c.rtt, c.timed)).2 }
def mkE (d : Dg) (mk : Nat → Bool) (es : List Ent) : Nat → Bool := fun i => mk i || es.any fun e => goneE d e && decide (i ∈ e.ids)
set_option maxRecDepth 20000 in
set_option maxHeartbeats 1000000 in
theorem del_sent {d : Dg} {now D N0 N2 : Nat} {lv : Value} {hs : List Value} (h : Core w F A bl mk c wv sv) (hS : SentAt w F bl c.pushed c.sent wv sv hs) (hd : d.bits < 4294967296) (hnow : now < 4294967296) (hc : Clo w D N0 N2 A now d lv)
  (hl : c.sent.length ≤ 1000000) (hids : ∀ e ∈ c.sent, e.ids.length ≤ 1000000) :
  callV Tryz.prog 32 [sv, .func (.func 33) #[] #[.pointer (some ⟨D, 0, none⟩), .pointer (some ⟨N0, 0, none⟩), .pointer (some ⟨N2, 0, none⟩)]] w fun v w' =>
   ∃ hs', Core w' F A bl (mkE d mk c.sent) (afterE d now c c.sent) wv sv ∧ SentAt w' F bl c.pushed (c.sent.filter fun e => !goneE d e) wv v hs' ∧ Clo w' D N0 N2 A now d lv ∧ Fm (fun i => F i ∧ ∃ C t, w.heap[i]? = some (.cells C t (0, 0)) ∧ (t = 70 ∨ t = 77 ∨ t = 101)) w w' ∧ v.ownBlock = sv.ownBlock := by
 obtain ⟨hlen, hown, hfs, hhas, hrng⟩ := hS
 obtain ⟨es, hes⟩ : ∃ es, es = c.sent := ⟨_, rfl⟩
 rw [← hes] at hlen hown hhas hrng hl hids ⊢
 have hxl : (es.zip hs).length = es.length := by rw [List.length_zip, hlen, Nat.min_self]
 rw [← hxl] at hown
 have hgetx : ∀ (j : Nat) (x : Ent × Value), (es.zip hs)[j]? = some x → es[j]? = some x.1 ∧ hs[j]? = some x.2 := fun j x hx => List.getElem?_zip_eq_some.1 hx
 obtain ⟨p, cp, rfl, -, -⟩ := own_readS hown
 obtain ⟨g, hg⟩ : ∃ g, (es.zip hs ≠ [] → p = some ⟨g, 0, none⟩ ∧ F g ∧ ∃ C, C.size = cp * 3 ∧ RowIn w g 101 entC 3 0 (es.zip hs).length (es.zip hs) C) := by
  by_cases hne : es.zip hs = []
  ·exact ⟨0, fun h => absurd hne h⟩
  ·obtain ⟨g, cap, C, e, -, hrow, -, -, hs'⟩ := own_rowIn entC_len hown hne
   cases e
   exact ⟨g, fun _ => ⟨rfl, hfs g rfl, C, hs', hrow⟩⟩
 have hcapm : (es.zip hs).length ≤ cp ∧ cp ≤ maxLen := by
  rcases hown.2 with ⟨e, h0⟩ | ⟨_, cap, _, e, _, _, hc', hm', _⟩
  ·simp only [Value.slice.injEq] at e
   rw [h0, e.2.2]; exact ⟨by omega, by simp [maxLen]⟩
  ·simp only [Value.slice.injEq] at e
   rw [e.2.2]; exact ⟨hc', hm'⟩
 obtain ⟨C, hC⟩ : ∃ C, es.zip hs ≠ [] → C.size = cp * 3 ∧ RowIn w g 101 entC 3 0 (es.zip hs).length (es.zip hs) C := by
  by_cases hne : es.zip hs = []
  ·exact ⟨#[], fun h => absurd hne h⟩
  ·obtain ⟨_, _, C, h1⟩ := hg hne
   exact ⟨C, fun _ => h1⟩
 have hTg : es.zip hs ≠ [] → ¬ Soft A bl c.pushed g := fun hne => h.softno (hC hne).2.1 (by decide) (by decide)
 obtain ⟨g', hg', hg0, hg'n⟩ : ∃ g', (es.zip hs ≠ [] → g' = g) ∧ (es.zip hs = [] → g' = w.heap.size) ∧ ¬ Soft A bl c.pushed g' := by
  by_cases hne : es.zip hs = []
  ·exact ⟨w.heap.size, fun h => absurd hne h, fun _ => rfl, fun hs => by have := h.lt _ (h.soft hs).1; omega⟩
  ·exact ⟨g, fun _ => rfl, fun h => absurd h hne, hTg hne⟩
 have hg97 : es.zip hs ≠ [] → w.heap[g']? = some (.cells C 101 (0, 0)) := fun hne => by rw [hg' hne]; exact (hC hne).2.1
 -- the relation of the rounds
 let I : Nat → World → Prop := fun j W => Core W F A bl (mkE d mk (es.take j)) (afterE d now c (es.take j)) wv (.slice p (es.zip hs).length cp) ∧ (∀ (k : Nat) (e : Ent) (hv : Value), es[k]? = some e → hs[k]? = some hv → HasAt W F wv bl c.pushed e.ids hv) ∧ Clo W D N0 N2 A now d lv ∧
  (es.zip hs ≠ [] → ∃ C, W.heap[g']? = some (.cells C 101 (0, 0))) ∧ w.heap.size ≤ W.heap.size
 have hI0 : I 0 w := by
  refine ⟨?_, hhas, hc, fun hne => ⟨C, hg97 hne⟩, Nat.le_refl _⟩
  have e1 : mkE d mk (es.take 0) = mk := by funext i; simp [mkE]
  rw [e1]
  exact h
 refine (delete41_c (xs := es.zip hs) (enc := entC) (p := fun x => goneE d x.1) (g := g') (C := C) (T := Soft A bl c.pushed) (I := I) (f := 33) (caps := [.pointer (some ⟨D, 0, none⟩), .pointer (some ⟨N0, 0, none⟩), .pointer (some ⟨N2, 0, none⟩)])
  (fun hne => by rw [hg' hne]; exact (hg hne).1) (fun hne => by rw [hg' hne]; exact (hC hne).2) (by omega) hcapm.1 hg'n (fun i hi => h.lt i (h.soft hi).1) entC_len ?_ ?_ ?_ hI0).mono ?_
 ·intro x hx v hv
  obtain ⟨j, hj⟩ := List.getElem?_of_mem hx
  obtain ⟨h1, h2⟩ := hgetx j x hj
  simp only [entC, List.mem_cons, List.not_mem_nil, or_false] at hv
  rcases hv with rfl | rfl | rfl
  ·rfl
  ·rfl
  ·exact own_one (hhas j _ _ h1 h2).own
 ·rintro j W W' ⟨h1, h2, h3, h4, h5⟩ h97 hf
  have hne' : ∀ i C t, W.heap[i]? = some (.cells C t (0, 0)) → i < w.heap.size → t ≠ 101 → ¬ i = g' := by
   intro i C t hi hlt ht e
   by_cases hne : es.zip hs = []
   ·rw [hg0 hne] at e; omega
   ·obtain ⟨C', hC'⟩ := h4 hne
    rw [← e, hi] at hC'; cases hC'; exact ht rfl
  refine ⟨h1.keep hf fun i C t hi hF ht => hne' i C t hi (h.lt i hF) (by rcases ht with rfl | ⟨rfl, _⟩ | rfl | rfl <;> decide), fun k e hv hk hk' => (h2 k e hv hk hk').keep hf fun i C hi hF _ => hne' i C 75 hi (h.lt i hF) (by decide), h3.keep hf fun i hi => ?_, fun _ => h97, Nat.le_trans h5 hf.size⟩
  obtain ⟨C, t, hb, ht⟩ := h3.ty hi
  obtain ⟨_, _, hb', _⟩ := hc.ty hi
  exact hne' i C t hb (lt_of_blk hb') (by rcases ht with rfl | rfl | rfl <;> decide)
 ·rintro j x W hx ⟨h1, h2, h3, h4, h5⟩
  obtain ⟨hx1, hx2⟩ := hgetx j x hx
  obtain ⟨e, hv⟩ := x
  have hmem := List.mem_of_getElem? hx1
  refine (del42_c h1 (h2 j e hv hx1 hx2) (hrng e hmem) hnow (hids e hmem) hd h3).mono ?_
  rintro v W' ⟨rfl, h6, hf⟩
  have hf' : Fm (Soft A bl c.pushed) W W' := hf
  refine ⟨rfl, ⟨?_, fun k e' hv' hk hk' => (h2 k e' hv' hk hk').keep hf' fun i C hi _ _ => h1.softno hi (by decide) (by decide), h3.keep hf' fun i hi => ?_, fun hne => ?_, Nat.le_trans h5 hf.size⟩, hf'⟩
  ·have e1 : mkE d mk (es.take (j + 1)) = fun i => mkE d mk (es.take j) i || (goneE d e && decide (i ∈ e.ids)) := by
    funext i
    unfold mkE
    rw [List.take_add_one, hx1, Bool.or_assoc]
    simp
   have e2 : afterE d now c (es.take (j + 1)) = { afterE d now c (es.take j) with rtt := (stepE d now ((afterE d now c (es.take j)).rtt, (afterE d now c (es.take j)).timed) e).1, timed := (stepE d now ((afterE d now c (es.take j)).rtt, (afterE d now c (es.take j)).timed) e).2 } := by
    unfold afterE
    rw [List.take_add_one, hx1]
    simp only [Option.toList_some, List.foldl_append, List.foldl_cons, List.foldl_nil]
   rw [e1, e2]
   exact h6
  ·obtain ⟨C, t, hb, ht⟩ := h3.ty hi
   exact h1.softno hb (by rcases ht with rfl | rfl | rfl <;> decide) (by rcases ht with rfl | rfl | rfl <;> decide)
  ·obtain ⟨C', hC'⟩ := h4 hne
   exact ⟨C', hf'.keep hC' (h1.softno hC' (by decide) (by decide))⟩
 ·rintro v w' ⟨rfl, hI, hF, hrow⟩
  obtain ⟨h1, h2, h3, h4, h5⟩ := hI
  have h1' : Core w' F A bl (mkE d mk (es.take es.length)) (afterE d now c (es.take es.length)) wv (.slice p (es.zip hs).length cp) := by rw [← hxl]; exact h1
  rw [List.take_length] at h1'
  obtain ⟨ks, hks⟩ : ∃ ks, ks = (es.zip hs).filter fun x => !goneE d x.1 := ⟨_, rfl⟩
  have hk1 : ks.map (·.1) = es.filter fun e => !goneE d e := by rw [hks]; exact zip_fst_filter (fun e => !goneE d e) es hs hlen
  have hmem : ∀ x ∈ ks, x ∈ es.zip hs := fun x hx => by rw [hks] at hx; exact (List.mem_filter.1 hx).1
  rw [← hks] at hrow ⊢
  have hfull : Fm (fun i => F i ∧ ∃ C t, w.heap[i]? = some (.cells C t (0, 0)) ∧ (t = 70 ∨ t = 77 ∨ t = 101)) w w' := by
   refine hF.mono fun i _ hi => ?_
   rcases hi with hi | ⟨rfl, hne⟩
   ·obtain ⟨hFi, C, t, hb, ht⟩ := h.soft hi
    exact ⟨hFi, C, t, hb, ht.imp id .inl⟩
   ·rw [hg' hne]
    exact ⟨(hg hne).2.1, _, _, (hC hne).2.1, .inr (.inr rfl)⟩
  refine ⟨ks.map (·.2), h1', ?_, h3, hfull, by cases p <;> rfl⟩
  rw [← hk1]
  refine ⟨by simp, ?_, ?_, ?_, ?_⟩
  ·rw [zip_unzip, List.length_map]
   by_cases hne : es.zip hs = []
   ·have hk0 : ks = [] := by rw [hks, hne]; rfl
    have hown2 : w'.ownsRow 0 101 3 (.slice p (es.zip hs).length cp) (es.zip hs).length ((es.zip hs).flatMap entC) := hF.owns hown fun i hi hs => by
     rcases hs with hs | ⟨_, hne'⟩
     ·obtain ⟨_, cur, hb⟩ := own_block hown hi
      exact h.softno hb (by decide) (by decide) hs
     ·exact hne' hne
    rw [hk0]
    rw [hne] at hown2
    exact hown2
   ·obtain ⟨C', hC's, hr⟩ := hrow hne
    have hp : p = some ⟨g', 0, none⟩ := by rw [hg' hne]; exact (hg hne).1
    rw [hp]
    have hkl : ks.length ≤ (es.zip hs).length := by rw [hks]; exact List.length_filter_le _ _
    exact rowIn_own entC_len hr hkl (Nat.zero_le _) (by omega) hcapm.2 (by rw [hC's, (hC hne).1])
  ·intro i hi
   exact hfs i (by cases p <;> exact hi)
  ·intro j e hv he hh
   rw [List.getElem?_map, Option.map_eq_some_iff] at he hh
   obtain ⟨x, hx, rfl⟩ := he
   obtain ⟨y, hy, rfl⟩ := hh
   rw [hx] at hy; cases hy
   obtain ⟨k, hk⟩ := List.getElem?_of_mem (hmem x (List.mem_of_getElem? hx))
   exact h2 k _ _ (hgetx k x hk).1 (hgetx k x hk).2
  ·intro e he
   obtain ⟨x, hx, rfl⟩ := List.mem_map.1 he
   obtain ⟨k, hk⟩ := List.getElem?_of_mem (hmem x hx)
   exact hrng _ (List.mem_of_getElem? (hgetx k x hk).1)
theorem HasAt.reW {n : Nat} {ids : List Nat} {h v : Value} (H : HasAt w F wv bl n ids h) (hv : v.ownBlock = wv.ownBlock) : HasAt w F v bl n ids h := ⟨H.own, fun i hi => ⟨(H.inF i hi).1, by rw [hv]; exact (H.inF i hi).2⟩, H.lt⟩
theorem SentAt.keep {w' : World} {S : Nat → Prop} {n : Nat} {es : List Ent} {hs : List Value} (h : SentAt w F bl n es wv sv hs) (f : Fm S w w') (hS : ∀ i C t, w.heap[i]? = some (.cells C t (0, 0)) → F i → t = 101 ∨ t = 75 ∧ wv.ownBlock ≠ some i → ¬ S i) : SentAt w' F bl n es wv sv hs := by
 refine { h with own := f.owns h.own fun i hi => ?_, has := fun j e hv he hh => (h.has j e hv he hh).keep f fun i C hi hF hw => hS i C 75 hi hF (.inr ⟨rfl, hw⟩) }
 obtain ⟨_, cur, hc⟩ := own_block h.own hi
 exact hS i _ _ hc (h.fs i hi) (.inl rfl)
theorem SentAt.reW {n : Nat} {es : List Ent} {hs : List Value} {v : Value} (h : SentAt w F bl n es wv sv hs) (hv : v.ownBlock = wv.ownBlock) : SentAt w F bl n es v sv hs := { h with has := fun j e x he hh => (h.has j e x he hh).reW hv }
theorem Core.filt {w' : World} {v : Value} (h : Core w F A bl mk c wv sv) (q : Nat × Msg → Bool) (f : Fm (fun i => i = A ∨ wv.ownBlock = some i) w w') (hb : BoxA w' A (.int .u16 c.next) v sv c.win (.int .i64 c.rtt) (.bool c.timed) (.int .u32 c.heard))
  (hown : w'.ownsRow 0 75 1 v (c.wait.filter q).length (ptrs bl ((c.wait.filter q).map (·.1)))) (hv : v.ownBlock = wv.ownBlock) : Core w' F A bl mk { c with wait := c.wait.filter q } v sv := by
 have ne : ∀ {i C t}, w.heap[i]? = some (.cells C t (0, 0)) → t ≠ 70 → t ≠ 75 → ¬ (i = A ∨ wv.ownBlock = some i) := by
  rintro i C t hi ht ht' (rfl | hw)
  ·have hA := h.box
   unfold BoxA at hA
   rw [hi] at hA; cases hA; exact ht rfl
  ·obtain ⟨_, cur, hc⟩ := own_block h.own hw
   rw [hi] at hc; cases hc; exact ht' rfl
 refine { h with box := hb, lt := fun i hi => Nat.lt_of_lt_of_le (h.lt i hi) f.size, own := hown, fw := fun i hi => h.fw i (by rw [← hv]; exact hi), ids := fun i hi => ?_, msgs := fun x hx => ?_, many := Nat.le_trans (List.length_filter_le _ _) h.many }
 ·obtain ⟨h1, cs, h2, h3⟩ := h.ids i hi
  exact ⟨h1, cs, h2, f.keep h3 (ne h3 (by decide) (by decide))⟩
 ·obtain ⟨h1, h2, q', cq, h3, h4⟩ := h.msgs x (List.mem_filter.1 hx).1
  exact ⟨h1, h2, q', cq, f.keep h3 (ne h3 (by decide) (by decide)), h4.keep f fun i C hi _ => ne hi (by decide) (by decide)⟩
set_option maxRecDepth 20000 in
set_option maxHeartbeats 1000000 in
theorem del_waits (h : Core w F A bl mk c wv sv) : callV Tryz.prog 36 [wv, .func (.func 37) #[] #[]] w fun v w' =>
  w'.ownsRow 0 75 1 v (c.wait.filter fun x => !mk x.1).length (ptrs bl ((c.wait.filter fun x => !mk x.1).map (·.1))) ∧ v.ownBlock = wv.ownBlock ∧ Fm (fun i => wv.ownBlock = some i) w w' := by
 have hown := h.own
 rw [ptrs_map] at hown
 have hfw := h.fw
 obtain ⟨p, cp, rfl, -, -⟩ := own_readS hown
 have hcapm : c.wait.length ≤ cp ∧ cp ≤ maxLen := by
  rcases hown.2 with ⟨e, h0⟩ | ⟨_, cap, _, e, _, _, hc', hm', _⟩
  ·simp only [Value.slice.injEq] at e
   rw [h0, e.2.2]; exact ⟨by omega, by simp [maxLen]⟩
  ·simp only [Value.slice.injEq] at e
   rw [e.2.2]; exact ⟨hc', hm'⟩
 obtain ⟨g, C, hg⟩ : ∃ g C, (c.wait ≠ [] → p = some ⟨g, 0, none⟩ ∧ C.size = cp * 1 ∧ RowIn w g 75 (ptr1 fun x => adOf bl x.1) 1 0 c.wait.length c.wait C) := by
  by_cases hne : c.wait = []
  ·exact ⟨0, #[], fun h => absurd hne h⟩
  ·obtain ⟨g, cap, C, e, -, hrow, -, -, hs'⟩ := own_rowIn (enc := ptr1 fun x : Nat × Msg => adOf bl x.1) (k := 1) (fun _ => rfl) hown hne
   cases e
   exact ⟨g, C, fun _ => ⟨rfl, hs', hrow⟩⟩
 have hmany := h.many
 by_cases hne : c.wait = []
 ·have hn : ∀ (f : Nat × Msg → Bool), c.wait.filter f = [] := fun f => by rw [hne]; rfl
  refine (delete45_c (xs := c.wait) (ad := fun x => adOf bl x.1) (p := fun x => mk x.1) (g := 0) (C := #[]) (J := fun _ => True) (f := 37) (caps := []) (fun h => absurd hne h) (fun h => absurd hne h) (by omega) hcapm.1 (fun _ _ _ _ => trivial) (fun x hx => by rw [hne] at hx; cases hx) trivial).mono ?_
  rintro v w' ⟨rfl, hF, -⟩
  have hF' : Fm none' w w' := hF.mono fun i _ h => absurd hne h.2
  refine ⟨?_, by cases p <;> rfl, hF'.none⟩
  rw [hn]
  have := hF'.owns hown fun _ _ => id
  rw [hne] at this
  exact this
 obtain ⟨hp, hCs, hrow⟩ := hg hne
 have hgne : ∀ k, k < c.pushed → bl k ≠ g := by
  rintro k hk e
  obtain ⟨_, cs, _, h3⟩ := h.ids k hk
  rw [e, hrow.1] at h3; cases h3
 refine (delete45_c (xs := c.wait) (ad := fun x => adOf bl x.1) (p := fun x => mk x.1) (g := g) (C := C) (J := fun W => ∀ k, k < c.pushed → ∃ cs : List Value, cs.length = 23 ∧ W.heap[bl k]? = some (.cells (cs ++ [Value.bool (mk k)]).toArray 77 (0, 0))) (f := 37) (caps := [])
  (fun _ => hp) (fun _ => hrow) (by omega) hcapm.1 (fun W W' hJ hf k hk => ?_) (fun x hx W hJ => ?_) (fun k hk => (h.ids k hk).2)).mono ?_
 ·obtain ⟨cs, h1, h2⟩ := hJ k hk
  exact ⟨cs, h1, hf.keep h2 (hgne k hk)⟩
 ·obtain ⟨cs, h1, h2⟩ := hJ x.1 (h.msgs x hx).1
  exact del46_c h1 h2
 ·rintro v w' ⟨rfl, hF, hr⟩
  obtain ⟨C', hC', hr'⟩ := hr hne
  refine ⟨?_, by cases p <;> rfl, hF.mono fun i _ hi => by rw [hp, hi.1]; rfl⟩
  rw [ptrs_map, hp]
  have hkl := List.length_filter_le (fun x => !mk x.1) c.wait
  exact rowIn_own (fun _ => rfl) hr' hkl (Nat.zero_le _) (by omega) hcapm.2 (by rw [hC', hCs])
end
end Go.Proofs.YtipikchkbmgloaaGreatDoor
namespace Go.Proofs.YtipikchkbmgloaaGreatDoor
set_option linter.unusedSimpArgs false
set_option linter.unusedVariables false
open Go Go.RowKit VC
variable {w : World}
theorem decD_ok {ys : List Int} (hy : ∀ y ∈ ys, 0 ≤ y ∧ y < 256) : Dok (decD ys).1 := by
 have hz : Dok dgZ := ⟨by decide, by decide, by decide⟩
 unfold decD
 split
 ·exact hz
 split
 ·exact hz
 split
 ·exact hz
 split
 ·exact hz
 rename_i h11 _ _ _
 have h1 := valB_lt 2 (ys.take 2) (by rw [List.length_take]; omega) fun y h => hy y (List.mem_of_mem_take h)
 have h2 := valB_lt 2 ((ys.take 5).drop 3) (by rw [List.length_drop, List.length_take]; omega) fun y h => hy y (List.mem_of_mem_take (List.mem_of_mem_drop h))
 have h3 := valB_lt 4 ((ys.take 9).drop 5) (by rw [List.length_drop, List.length_take]; omega) fun y h => hy y (List.mem_of_mem_take (List.mem_of_mem_drop h))
 exact ⟨h1, h2, h3⟩
theorem stepE_le {d : Dg} {now : Nat} {s : Nat × Bool} {e : Ent} (h : s.1 ≤ 1000) : (stepE d now s e).1 ≤ 1000 := by
 unfold stepE
 have ht : tookN now e.now ≤ 1000 := by unfold tookN; split <;> omega
 split
 ·show (if s.2 = true then _ else _) ≤ 1000
  split <;> omega
 ·exact h
set_option maxRecDepth 20000 in
set_option maxHeartbeats 2000000 in
theorem unpack18_c {F : Nat → Prop} {A : Nat} {c : Ch} {ys : List Int} {p : Option Addr} {cp now : Nat} (hH : Halves w) (h : ChAt w F A c) (hb : BytesAt w p ys) (hy : ∀ y ∈ ys, 0 ≤ y ∧ y < 256) (hl : ys.length ≤ 1000000) (hnc : ys.length ≤ cp) (hnow : now < 4294967296)
  (hsl : c.sent.length ≤ 1000000) (hids : ∀ e ∈ c.sent, e.ids.length ≤ 1000000) :
  callV Tryz.prog 12 [.pointer (some ⟨A, 0, none⟩), .slice p ys.length cp, .int .u32 now] w fun v w' =>
   ∃ q e, v = .tuple #[.slice q (unpackC c ys now).1.1.length e, .int .i64 (unpackC c ys now).1.2] ∧ OwnMsgs w' w.heap.size (.slice q (unpackC c ys now).1.1.length e) (unpackC c ys now).1.1 ∧ ChAt w' F A (unpackC c ys now).2 ∧ Fm F w w' := by
 obtain ⟨bl, mk, wv, sv, hs, hc, hS, hmk⟩ := h
 refine vc12 ⟨A, 0, none⟩ p ys.length cp now w _ ?_
 refine allocC_of fun w1 hb1 hs1 hf1 => allocC_of fun w3 hb3 hs3 hf3 => ?_
 obtain ⟨N0, hN0⟩ : ∃ N0, N0 = w.heap.size := ⟨_, rfl⟩
 obtain ⟨N2, hN2⟩ : ∃ N2, N2 = w1.heap.size := ⟨_, rfl⟩
 rw [← hN0] at hb1 ⊢
 rw [← hN2] at hb3 ⊢
 have hF3 := hf1.trans hf3
 refine (decode12_c (c := cp) (hH.keep hF3 id) (hb.keep hF3 fun _ _ => id) hy hl hnc).mono ?_
 rintro _ w5 ⟨q, cq, rfl, hown, hF5⟩
 have hF5w := hF3.trans hF5
 simp only [vq, eqV, nilV, List.getElem?_toArray, List.getElem?_cons_zero, List.getElem?_cons_succ]
 refine allocC_of fun w12 hb12 hs12 hf12 => ?_
 obtain ⟨D, hD⟩ : ∃ D, D = w5.heap.size := ⟨_, rfl⟩
 rw [← hD] at hb12 ⊢
 refine rd_of (v := ()) rfl ?_
 have hcells : cellsOf true (dgC (decD ys).1 q cq) = [.int .u16 (decD ys).1.seq, .bool (decD ys).1.any, .int .u16 (decD ys).1.last, .int .u32 (decD ys).1.bits, .slice q (decD ys).1.list.length cq] := rfl
 rw [hcells]
 refine stC_all hb12 rfl (fun v hv => by simp at hv; rcases hv with rfl | rfl | rfl | rfl | rfl <;> rfl) fun w13 hb13 hf13 => ?_
 have hsz1 := hf1.size
 have hsz3 := hF3.size
 have hsz5 := hF5w.size
 have hF13 : Fm none' w w13 := (hF5w.trans hf12).trans' hf13 fun i hi e => by omega
 have hdok := decD_ok hy
 have hown13 : OwnMsgs w13 w.heap.size (.slice q (decD ys).1.list.length cq) (decD ys).1.list := by
  refine (hown.base hsz3).keep (hf12.none.trans hf13) ?_
  rintro i C t hi _ ht rfl
  have := lt_of_blk hi; omega
 have hclo : Clo w13 D N0 N2 A now (decD ys).1 (.slice q (decD ys).1.list.length cq) := by
  have k1 : w3.heap[N0]? = some (.cells #[.pointer (some ⟨A, 0, none⟩)] 24 (0, 0)) := hf3.keep hb1 id
  have h1 := hf12.keep (hF5.keep k1 id) id
  have h2 := hf12.keep (hF5.keep hb3 id) id
  have e1 : N0 ≠ D := by have := hF5.size; omega
  have e2 : N2 ≠ D := by have := hF5.size; omega
  exact ⟨hb13, hf13.keep h1 e1, hf13.keep h2 e2⟩
 have hc13 : Core w13 F A bl mk c wv sv := hc.keep hF13 fun _ _ _ _ _ _ => id
 have hS13 : SentAt w13 F bl c.pushed c.sent wv sv hs := hS.keep hF13 fun _ _ _ _ _ _ => id
 refine br_ndec (fun he => ?_) (fun he => ?_)
 ·have e : unpackC c ys now = (([], (decD ys).2), c) := by unfold unpackC; rw [if_pos he]
  rw [e]
  exact ⟨none, 0, rfl, OwnMsgs.nil _ _, ⟨bl, mk, wv, sv, hs, hc13, hS13, hmk⟩, hF13.none⟩
 have kA : w13.drew.cell? ⟨N0, 0, none⟩ = some (.pointer (some ⟨A, 0, none⟩)) := cellOf (w := w13.drew) hclo.a rfl
 have kD : w13.drew.cell? ⟨D, 0, none⟩ = some (.int .u16 (decD ys).1.seq) := cellOf (w := w13.drew) hclo.d rfl
 have hAlt : ∀ i, i = A → i < w.heap.size := fun i e => e ▸ hc.lt A hc.fA
 have hAN : N0 ≠ A ∧ N2 ≠ A ∧ D ≠ A := by have := hc.lt A hc.fA; omega
 refine ⟨fun w' => Fm (fun i => i = A) w13.drew w', Fm.refl _ _, ?_⟩
 have sA : ∀ w', Fm (fun i => i = A) w13.drew w' → w'.cell? ⟨N0, 0, none⟩ = some (.pointer (some ⟨A, 0, none⟩)) := fun w' hf => hf.cell kA hAN.1
 refine rd_of (v := .pointer (some ⟨A, 0, none⟩)) kA ⟨fun w' hf => rd_of (sA w' hf) rfl, ?_⟩
 simp only [vq, eqV, nilV]
 simp only [addr_add, Nat.zero_add]
 refine rd_of (v := .int .u16 (decD ys).1.seq) kD ⟨fun w' hf => rd_of (v := .int .u16 (decD ys).1.seq) (hf.cell kD hAN.2.2) rfl, ?_⟩
 simp only [vq, eqV, nilV]
 have hc13d : Core w13.drew F A bl mk c wv sv := hc13.keep (Fm.drew w13) fun _ _ _ _ _ _ => id
 refine (accept40_c hc13d.box hc.wok hdok.seq).mono ?_
 rintro _ w36 ⟨rfl, hbox36, hf36⟩
 have hF36 : Fm F w w36 := (hF13.trans (Fm.drew w13)).none.trans (hf36.mono fun i _ e => e ▸ hc.fA)
 simp only [vq, eqV, nilV]
 refine ⟨hf36, ?_⟩
 have hc36 : Core w36 F A bl mk { c with win := (accW c.win (decD ys).1.seq).2 } wv sv := hc13d.turn hf36 rfl rfl hbox36 (accW_ok hc.wok hdok.seq) hc.next hc.heard hc.rtt
 have noA : ∀ {W : World} {i : Nat} {C : Array Value} {t : Nat} {c' : Ch} {mk' : Nat → Bool}, Core W F A bl mk' c' wv sv → W.heap[i]? = some (.cells C t (0, 0)) → t ≠ 70 → ¬ i = A := by
  rintro W i C t c' mk' hcW hi ht rfl
  have := hcW.box
  unfold BoxA at this
  rw [hi] at this; cases this; exact ht rfl
 have hS36 : SentAt w36 F bl c.pushed c.sent wv sv hs := (hS13.keep (Fm.drew w13) fun _ _ _ _ _ _ => id).keep hf36 fun i C t hi _ ht => noA hc13d hi (by rcases ht with rfl | ⟨rfl, _⟩ <;> decide)
 have hclo36 : Clo w36 D N0 N2 A now (decD ys).1 (.slice q (decD ys).1.list.length cq) := hclo.keep ((Fm.drew w13).none.trans hf36) fun i hi e => by rcases hi with h | h | h <;> omega
 cases hacc : (accW c.win (decD ys).1.seq).1 with
 | false =>
  simp only [Bool.not_false, vq, eqV, nilV]
  have hsame : (accW c.win (decD ys).1.seq).2 = c.win := by
   unfold accW at hacc ⊢
   split
   ·rename_i h; rw [if_pos h] at hacc; cases hacc
   ·rename_i h; rw [if_neg h] at hacc
    split
    ·rename_i h2; rw [if_pos h2] at hacc; cases hacc
    ·rename_i h2; rw [if_neg h2] at hacc
     split
     ·rfl
     ·rename_i h3; rw [if_neg h3] at hacc; cases hacc
  have e : unpackC c ys now = (([], 7), c) := by
   unfold unpackC
   rw [if_neg (by simpa using he), if_pos hacc]
  rw [e]
  rw [hsame] at hc36
  exact ⟨none, 0, rfl, OwnMsgs.nil _ _, ⟨bl, mk, wv, sv, hs, hc36, hS36, hmk⟩, hF36⟩
 | true =>
  simp only [Bool.not_true, vq, eqV, nilV]
  have kA36 : w36.cell? ⟨N0, 0, none⟩ = some (.pointer (some ⟨A, 0, none⟩)) := cellOf hclo36.a rfl
  have kN36 : w36.cell? ⟨N2, 0, none⟩ = some (.int .u32 now) := cellOf hclo36.n rfl
  simp only [kA36, kN36, vq, eqV, nilV]
  simp only [addr_add, Nat.zero_add]
  refine stC_one hbox36 (by simp) rfl fun w46 hb46 hf46 => ?_
  obtain ⟨c1, hc1⟩ : ∃ c1 : Ch, c1 = { c with win := (accW c.win (decD ys).1.seq).2, heard := now } := ⟨_, rfl⟩
  have hc46 : Core w46 F A bl mk c1 wv sv := by
   rw [hc1]
   exact hc36.turn hf46 rfl rfl hb46 (accW_ok hc.wok hdok.seq) hc.next hnow hc.rtt
  have hp1 : c1.pushed = c.pushed := by rw [hc1]
  have hs1' : c1.sent = c.sent := by rw [hc1]
  have hS46 : SentAt w46 F bl c1.pushed c1.sent wv sv hs := by
   rw [hp1, hs1']
   exact hS36.keep hf46 fun i C t hi _ ht => noA hc36 hi (by rcases ht with rfl | ⟨rfl, _⟩ <;> decide)
  have hclo46 : Clo w46.drew D N0 N2 A now (decD ys).1 (.slice q (decD ys).1.list.length cq) := (hclo36.keep hf46 fun i hi e => by rcases hi with h | h | h <;> omega).keep (Fm.drew w46) fun _ _ => id
  have hF46 : Fm F w w46 := hF36.trans (hf46.mono fun i _ e => e ▸ hc.fA)
  have kA46 : w46.drew.cell? ⟨N0, 0, none⟩ = some (.pointer (some ⟨A, 0, none⟩)) := cellOf hclo46.a rfl
  have kS46 : w46.drew.cell? ⟨A, 2, none⟩ = some sv := cellOf (w := w46.drew) hc46.box rfl
  refine ⟨fun w' => w'.cell? ⟨N0, 0, none⟩ = some (.pointer (some ⟨A, 0, none⟩)) ∧ w'.cell? ⟨A, 2, none⟩ = some sv, ⟨kA46, kS46⟩, ?_⟩
  refine rd_of (v := .pointer (some ⟨A, 0, none⟩)) kA46 ⟨fun w' hf => rd_of hf.1 rfl, ?_⟩
  simp only [vq, eqV, nilV]
  refine rd_of (v := .pointer (some ⟨A, 0, none⟩)) kA46 ⟨fun w' hf => rd_of hf.1 rfl, ?_⟩
  simp only [vq, eqV, nilV]
  simp only [addr_add, Nat.zero_add]
  refine rd_of (v := sv) kS46 ⟨fun w' hf => rd_of hf.2 rfl, ?_⟩
  obtain ⟨ps, cs, hsv, -, -⟩ := own_readS hS46.own
  have hsl1 : c1.sent.length ≤ 1000000 := by rw [hs1']; exact hsl
  have hids1 : ∀ e ∈ c1.sent, e.ids.length ≤ 1000000 := by rw [hs1']; exact hids
  have hdel := del_sent (hc46.keep (Fm.drew w46) fun _ _ _ _ _ _ => id) (hS46.keep (Fm.drew w46) fun _ _ _ _ _ _ => id) hdok.bits hnow hclo46 hsl1 hids1
  rw [hsv] at hdel ⊢
  simp only [vq, eqV, nilV]
  refine hdel.mono ?_
  rintro v75 w76 ⟨hs', hc76, hS76, hclo76, hF76, hblk⟩
  obtain ⟨pv, cv, rfl, -, -⟩ := own_readS hS76.own
  have hbox76 := hc76.box
  simp only [vq, eqV, nilV]
  have kA76 : w76.cell? ⟨N0, 0, none⟩ = some (.pointer (some ⟨A, 0, none⟩)) := cellOf hclo76.a rfl
  refine ⟨⟨kA76, cellOf hbox76 rfl⟩, ?_⟩
  refine stC_one hbox76 (by simp) rfl fun w82 hb82 hf82 => ?_
  obtain ⟨c2, hc2⟩ : ∃ c2 : Ch, c2 = { afterE (decD ys).1 now c1 c1.sent with sent := c1.sent.filter fun e => !goneE (decD ys).1 e } := ⟨_, rfl⟩
  have hrt : ∀ (es : List Ent) (s : Nat × Bool), s.1 ≤ 1000 → (es.foldl (stepE (decD ys).1 now) s).1 ≤ 1000 := by
   intro es
   induction es with
   | nil => intro s hs; exact hs
   | cons e es ih => intro s hs; exact ih _ (stepE_le hs)
  have hsl2 : ∀ {v : Value}, (Value.slice pv (c1.sent.filter fun e => !goneE (decD ys).1 e).length cv).ownBlock = v.ownBlock → True := fun _ => trivial
  have hc82 : Core w82 F A bl (mkE (decD ys).1 mk c1.sent) c2 wv (.slice pv (c1.sent.filter fun e => !goneE (decD ys).1 e).length cv) := by
   rw [hc2]
   refine hc76.turn hf82 rfl rfl hb82 ?_ ?_ ?_ ?_
   ·exact hc76.wok
   ·exact hc76.next
   ·exact hc76.heard
   ·exact hc76.rtt
  have no79 : ∀ i C t, w76.heap[i]? = some (.cells C t (0, 0)) → t ≠ 70 → ¬ i = A := by
   rintro i C t hi ht rfl
   unfold BoxA at hbox76
   rw [hi] at hbox76; cases hbox76; exact ht rfl
  have hS82 : SentAt w82 F bl c1.pushed (c1.sent.filter fun e => !goneE (decD ys).1 e) wv (.slice pv (c1.sent.filter fun e => !goneE (decD ys).1 e).length cv) hs' :=
   hS76.keep hf82 fun i C t hi _ ht => no79 i C t hi (by rcases ht with rfl | ⟨rfl, _⟩ <;> decide)
  have hclo82 : Clo w82.drew D N0 N2 A now (decD ys).1 (.slice q (decD ys).1.list.length cq) := (hclo76.keep hf82 fun i hi e => by rcases hi with h | h | h <;> omega).keep (Fm.drew w82) fun _ _ => id
  have hF76' : Fm F w46.drew w76 := hF76.mono fun i _ h => h.1
  have hF82 : Fm F w w82 := ((hF46.trans (Fm.drew w46).none).trans hF76').trans (hf82.mono fun i _ e => e ▸ hc.fA)
  have kA82 : w82.drew.cell? ⟨N0, 0, none⟩ = some (.pointer (some ⟨A, 0, none⟩)) := cellOf hclo82.a rfl
  have kW82 : w82.drew.cell? ⟨A, 1, none⟩ = some wv := cellOf (w := w82.drew) hc82.box rfl
  refine ⟨fun w' => w'.cell? ⟨N0, 0, none⟩ = some (.pointer (some ⟨A, 0, none⟩)) ∧ w'.cell? ⟨A, 1, none⟩ = some wv, ⟨kA82, kW82⟩, ?_⟩
  refine rd_of (v := .pointer (some ⟨A, 0, none⟩)) kA82 ⟨fun w' hf => rd_of hf.1 rfl, ?_⟩
  simp only [vq, eqV, nilV]
  refine rd_of (v := .pointer (some ⟨A, 0, none⟩)) kA82 ⟨fun w' hf => rd_of hf.1 rfl, ?_⟩
  simp only [vq, eqV, nilV]
  simp only [addr_add, Nat.zero_add]
  refine rd_of (v := wv) kW82 ⟨fun w' hf => rd_of hf.2 rfl, ?_⟩
  have hc82d : Core w82.drew F A bl (mkE (decD ys).1 mk c1.sent) c2 wv (.slice pv (c1.sent.filter fun e => !goneE (decD ys).1 e).length cv) := hc82.keep (Fm.drew w82) fun _ _ _ _ _ _ => id
  have hdw := del_waits hc82d
  obtain ⟨pw, cw, hwv⟩ := hc82.wvSl
  rw [hwv] at hdw ⊢
  simp only [vq, eqV, nilV]
  refine hdw.mono ?_
  rw [← hwv]
  rintro v109 w110 ⟨hown110, hblk110, hf110⟩
  obtain ⟨p1, c1', rfl, -, -⟩ := own_readS hown110
  have no98 : ∀ i C t, w82.drew.heap[i]? = some (.cells C t (0, 0)) → t ≠ 75 → ¬ wv.ownBlock = some i := by
   intro i C t hi ht hw
   obtain ⟨_, cur, hcur⟩ := own_block hc82d.own hw
   rw [hi] at hcur; cases hcur; exact ht rfl
  have hbox110 : BoxA w110 A (.int .u16 c2.next) wv (.slice pv (c1.sent.filter fun e => !goneE (decD ys).1 e).length cv) c2.win (.int .i64 c2.rtt) (.bool c2.timed) (.int .u32 c2.heard) := hf110.keep hc82d.box (no98 _ _ _ hc82d.box (by decide))
  have hclo110 : Clo w110 D N0 N2 A now (decD ys).1 (.slice q (decD ys).1.list.length cq) := hclo82.keep hf110 fun i hi => by
   obtain ⟨C, t, hb, ht⟩ := hclo82.ty hi
   exact no98 i C t hb (by rcases ht with rfl | rfl | rfl <;> decide)
  have kA110 : w110.cell? ⟨N0, 0, none⟩ = some (.pointer (some ⟨A, 0, none⟩)) := cellOf hclo110.a rfl
  simp only [vq, eqV, nilV]
  refine ⟨⟨kA110, cellOf hbox110 rfl⟩, ?_⟩
  refine stC_one hbox110 (by simp) rfl fun w116 hb116 hf116 => ?_
  have hne116 : ∀ i C t, w110.heap[i]? = some (.cells C t (0, 0)) → t ≠ 70 → ¬ i = A := by
   rintro i C t hi ht rfl
   unfold BoxA at hbox110
   rw [hi] at hbox110; cases hbox110; exact ht rfl
  have hclo116 := hclo110.keep hf116 fun i hi => by
   obtain ⟨C, t, hb, ht⟩ := hclo110.ty hi
   exact hne116 i C t hb (by rcases ht with rfl | rfl | rfl <;> decide)
  have kD116 : w116.cell? ⟨D, 4, none⟩ = some (.slice q (decD ys).1.list.length cq) := cellOf hclo116.d rfl
  simp only [kD116, vq, eqV, nilV]
  have hdone : unpackC c ys now = (((decD ys).1.list, 0), { c2 with wait := c2.wait.filter fun x => !(mkE (decD ys).1 mk c1.sent x.1) }) := by
   unfold unpackC
   rw [if_neg (by simpa using he), if_neg (by rw [hacc]; simp), hc2, hc1]
   simp only [afterE, Prod.mk.injEq, Ch.mk.injEq, true_and, and_true]
   refine List.filter_congr fun x hx => ?_
   simp only [mkE, hmk x hx, Bool.false_or]
  rw [hdone]
  have hF116 : Fm F w w116 := ((hF82.trans (Fm.drew w82).none).trans (hf110.mono fun i _ h => hc82d.fw i h)).trans (hf116.mono fun i _ e => e ▸ hc.fA)
  refine ⟨q, cq, rfl, ?_, ⟨bl, mkE (decD ys).1 mk c1.sent, _, _, hs', hc82d.filt (fun x => !(mkE (decD ys).1 mk c1.sent x.1)) ((hf110.mono fun i _ h => .inr h).trans (hf116.mono fun i _ h => .inl h)) hb116 ?_ hblk110, ?_, ?_⟩, hF116⟩
  ·have hAF : ∀ i, i = A → F i := fun i e => e ▸ hc.fA
   have hall : Fm F w13 w116 := ((((((((Fm.drew w13).none.trans (hf36.mono fun i _ => hAF i)).trans (hf46.mono fun i _ => hAF i)).trans (Fm.drew w46).none).trans hF76').trans (hf82.mono fun i _ => hAF i)).trans (Fm.drew w82).none).trans (hf110.mono fun i _ h => hc82d.fw i h)).trans (hf116.mono fun i _ => hAF i)
   exact (hN0 ▸ hown13).keep hall fun i C t _ hbi _ hFi => by have := hc.lt i hFi; omega
  ·refine hf116.owns hown110 fun i hi => ?_
   obtain ⟨_, cur, hcur⟩ := own_block hown110 hi
   exact hne116 i _ _ hcur (by decide)
  ·have hS110 := (hS82.keep (Fm.drew w82) fun _ _ _ _ _ _ => id).keep hf110 fun i C t hi _ ht => by
    rcases ht with rfl | ⟨rfl, h⟩
    ·exact no98 i C _ hi (by decide)
    ·exact h
   have hS116 := (hS110.keep hf116 fun i C t hi _ ht => hne116 i C t hi (by rcases ht with rfl | ⟨rfl, _⟩ <;> decide)).reW hblk110
   subst hc2
   exact hS116
  ·intro x hx
   have := (List.mem_filter.1 hx).2
   simpa using this
end Go.Proofs.YtipikchkbmgloaaGreatDoor
namespace Go.Proofs.YtipikchkbmgloaaGreatDoor
set_option linter.unusedSimpArgs false
set_option linter.unusedVariables false
open Go VC
theorem vc10 (a : Addr) (bp : Option Addr) (bn : Nat) (bc : Nat) (c : Int) (w : World) (R : Value → World → Prop)
 (h : cutC (fun u0 => heldC (World.drew w) fun u1 => (∀ (w2 : World), u1 w2 → Value.pointer (some a) = Value.pointer (some a) ∧ w2 = w2) ∧ (∀ (w4 : World), u1 w4 → Value.pointer (some a) = Value.pointer (some a) ∧ w4 = w4) ∧ (∀ (w6 : World), u1 w6 → Value.pointer (some a) = Value.pointer (some a) ∧ w6 = w6) ∧ rd (World.cell? (World.drew w) a) fun v8 => (∀ (w9 : World), u1 w9 → rd (World.cell? w9 a) fun v11 => v11 = v8 ∧ w9 = w9) ∧ isK IntKind.u16 v8 fun i12 => (∀ (w13 : World), u1 w13 → Value.pointer (some a) = Value.pointer (some a) ∧ w13 = w13) ∧ (∀ (w15 : World), u1 w15 → Value.pointer (some a) = Value.pointer (some a) ∧ w15 = w15) ∧ (∀ (w17 : World), u1 w17 → Value.pointer (some (Addr.add a (3 : Nat))) = Value.pointer (some (Addr.add a (3 : Nat))) ∧ w17 = w17) ∧ (∀ (w19 : World), u1 w19 → Value.slice bp bn bc = Value.slice bp bn bc ∧ w19 = w19) ∧ (callV Tryz.prog (24 : Nat) [Value.pointer (some (Addr.add a (3 : Nat)))] (World.drew w) fun v21 w22 => isB v21 fun t23 => u1 w22 ∧ (callV Tryz.prog (25 : Nat) [Value.slice bp bn bc] w22 fun v24 w25 => isSl v24 fun o26 n27 n28 => u1 w25 ∧ (∀ (w29 : World), u1 w29 → Value.agg #[Value.int IntKind.u16 i12, Value.bool t23, Value.int IntKind.u16 (0 : Int), Value.int IntKind.u32 (0 : Int), Value.slice o26 n27 n28] = Value.agg #[Value.int IntKind.u16 i12, Value.bool t23, Value.int IntKind.u16 (0 : Int), Value.int IntKind.u32 (0 : Int), Value.slice o26 n27 n28] ∧ w29 = w29) ∧ allocC w25 (Obj.cells #[Value.int IntKind.u16 (0 : Int), Value.bool false, Value.int IntKind.u16 (0 : Int), Value.int IntKind.u32 (0 : Int), Value.slice none (0 : Nat) (0 : Nat)] (96 : Nat)) fun n31 w32 => u1 w32 ∧ stC w32 { block := n31, off := (0 : Nat) : Addr } [Value.int IntKind.u16 i12, Value.bool t23, Value.int IntKind.u16 (0 : Int), Value.int IntKind.u32 (0 : Int), Value.slice o26 n27 n28] fun w33 => u0 (alist [((8 : Nat), Value.pointer (some { block := n31, off := (0 : Nat) : Addr }))]) w33) ∧ allocC w22 (Obj.cells #[Value.int IntKind.u16 (0 : Int), Value.bool false, Value.int IntKind.u16 (0 : Int), Value.int IntKind.u32 (0 : Int), Value.slice none (0 : Nat) (0 : Nat)] (96 : Nat)) fun n34 w35 => u1 w35 ∧ callV Tryz.prog (25 : Nat) [Value.slice bp bn bc] w35 fun v36 w37 => isSl v36 fun o38 n39 n40 => u1 w37 ∧ (∀ (w41 : World), u1 w41 → Value.agg #[Value.int IntKind.u16 i12, Value.bool t23, Value.int IntKind.u16 (0 : Int), Value.int IntKind.u32 (0 : Int), Value.slice o38 n39 n40] = Value.agg #[Value.int IntKind.u16 i12, Value.bool t23, Value.int IntKind.u16 (0 : Int), Value.int IntKind.u32 (0 : Int), Value.slice o38 n39 n40] ∧ w41 = w41) ∧ stC w37 { block := n34, off := (0 : Nat) : Addr } [Value.int IntKind.u16 i12, Value.bool t23, Value.int IntKind.u16 (0 : Int), Value.int IntKind.u32 (0 : Int), Value.slice o38 n39 n40] fun w43 => u0 (alist [((8 : Nat), Value.pointer (some { block := n34, off := (0 : Nat) : Addr }))]) w43) ∧ allocC (World.drew w) (Obj.cells #[Value.int IntKind.u16 (0 : Int), Value.bool false, Value.int IntKind.u16 (0 : Int), Value.int IntKind.u32 (0 : Int), Value.slice none (0 : Nat) (0 : Nat)] (96 : Nat)) fun n44 w45 => u1 w45 ∧ callV Tryz.prog (24 : Nat) [Value.pointer (some (Addr.add a (3 : Nat)))] w45 fun v46 w47 => isB v46 fun t48 => u1 w47 ∧ callV Tryz.prog (25 : Nat) [Value.slice bp bn bc] w47 fun v49 w50 => isSl v49 fun o51 n52 n53 => u1 w50 ∧ (∀ (w54 : World), u1 w54 → Value.agg #[Value.int IntKind.u16 i12, Value.bool t48, Value.int IntKind.u16 (0 : Int), Value.int IntKind.u32 (0 : Int), Value.slice o51 n52 n53] = Value.agg #[Value.int IntKind.u16 i12, Value.bool t48, Value.int IntKind.u16 (0 : Int), Value.int IntKind.u32 (0 : Int), Value.slice o51 n52 n53] ∧ w54 = w54) ∧ stC w50 { block := n44, off := (0 : Nat) : Addr } [Value.int IntKind.u16 i12, Value.bool t48, Value.int IntKind.u16 (0 : Int), Value.int IntKind.u32 (0 : Int), Value.slice o51 n52 n53] fun w56 => u0 (alist [((8 : Nat), Value.pointer (some { block := n44, off := (0 : Nat) : Addr }))]) w56) fun u57 => ∀ (u58 : Nat → Value) (w59 : World), u57 (alist [((8 : Nat), u58 (8 : Nat))]) w59 → cutC (fun u61 => isPtr (u58 (8 : Nat)) fun a62 => rd (World.cell? w59 (Addr.add a62 (1 : Nat))) fun v63 => isB v63 fun t64 => br t64 (callV Tryz.prog (26 : Nat) [Value.pointer (some (Addr.add a (3 : Nat)))] w59 fun v65 w66 => isTup v65 fun l67 => rd l67[(0 : Nat)]? fun v68 => isK IntKind.u16 v68 fun i69 => isTup v65 fun l70 => rd l70[(1 : Nat)]? fun v71 => isK IntKind.u32 v71 fun i72 => isPtr (u58 (8 : Nat)) fun a73 => stC w66 (Addr.add a73 (2 : Nat)) [Value.int IntKind.u16 i69] fun w74 => isPtr (u58 (8 : Nat)) fun a75 => stC w74 (Addr.add a75 (3 : Nat)) [Value.int IntKind.u32 i72] fun w76 => u61 (alist []) w76) (u61 (alist []) w59)) fun u77 => ∀ (u78 : Nat → Value) (w79 : World), u77 (alist []) w79 → isPtr (u58 (8 : Nat)) fun a81 => rd (cellsAt w79 a81 (5 : Nat)) fun l82 => callV Tryz.prog (27 : Nat) [Value.agg (List.toArray l82)] w79 fun v83 w84 => isTup v83 fun l85 => rd l85[(0 : Nat)]? fun v86 => isSl v86 fun o87 n88 n89 => isTup v83 fun l90 => rd l90[(1 : Nat)]? fun v91 => isK IntKind.i64 v91 fun i92 => br (!decide (i92 = (0 : Int))) (R (Value.tuple #[Value.slice none (0 : Nat) (0 : Nat), Value.int IntKind.i64 i92]) w84) (rd (World.cell? w84 a) fun v93 => isK IntKind.u16 v93 fun i94 => allocC w84 (Obj.cells #[Value.int IntKind.u16 (0 : Int), Value.int IntKind.u32 (0 : Int), Value.slice none (0 : Nat) (0 : Nat)] (101 : Nat)) fun n95 w96 => stC w96 { block := n95, off := (0 : Nat) : Addr } [Value.int IntKind.u16 i94, Value.int IntKind.u32 c, Value.slice none (0 : Nat) (0 : Nat)] fun w97 => cutC (fun u98 => rd (World.cell? w97 (Addr.add a (1 : Nat))) fun v99 => isSl v99 fun o100 n101 n102 => loopC (alist [((9 : Nat), Value.slice o87 n88 n89), ((57 : Nat), Value.int IntKind.i64 (0 : Int))]) w97 fun u103 u104 => ∀ (u105 : Nat → Value) (w106 : World), u103 (alist [((9 : Nat), u105 (9 : Nat)), ((57 : Nat), u105 (57 : Nat))]) w106 → rd (orO (binV BinOp.lss (u105 (57 : Nat)) (Value.int IntKind.i64 (↑n101 : Int))) none) fun v108 => isB v108 fun t109 => br t109 (isInt (u105 (57 : Nat)) fun k110 i111 => rd o100 fun a112 => ((0 : Int) ≤ i111 ∧ i111 < (↑n101 : Int)) ∧ rd (World.cell? w106 (Addr.add a112 (Int.toNat i111 * (1 : Nat)))) fun v113 => isP v113 fun o114 => heldC (World.drew w106) fun u115 => isPtr (u58 (8 : Nat)) fun a116 => (∀ (w117 : World), u115 w117 → isPtr (u58 (8 : Nat)) fun a119 => Value.pointer (some (Addr.add a119 (4 : Nat))) = Value.pointer (some (Addr.add a116 (4 : Nat))) ∧ w117 = w117) ∧ rd (World.cell? (World.drew w106) (Addr.add a116 (4 : Nat))) fun v120 => (∀ (w121 : World), u115 w121 → rd (World.cell? w121 (Addr.add a116 (4 : Nat))) fun v123 => v123 = v120 ∧ w121 = w121) ∧ isSl v120 fun o124 n125 n126 => (∀ (w127 : World), u115 w127 → Value.pointer o114 = Value.pointer o114 ∧ w127 = w127) ∧ rd (nilChk (Value.pointer o114)) fun v129 => (∀ (w130 : World), u115 w130 → rd (nilChk (Value.pointer o114)) fun v132 => v132 = v129 ∧ w130 = w130) ∧ isPtr v129 fun a133 => (∀ (w134 : World), u115 w134 → isPtr v129 fun a136 => Value.pointer (some a136) = Value.pointer (some a133) ∧ w134 = w134) ∧ rd (cellsAt (World.drew w106) a133 (23 : Nat)) fun l137 => (∀ (w138 : World), u115 w138 → rd (cellsAt w138 a133 (23 : Nat)) fun l140 => Value.agg (List.toArray l140) = Value.agg (List.toArray l137) ∧ w138 = w138) ∧ runs Tryz.prog (Instr.buildSlice (45 : Nat) (1 : Nat) #[((0 : Nat), Value.agg (List.toArray l137))]) (World.drew w106) fun v141 w142 => isSl v141 fun o143 n144 n145 => u115 w142 ∧ runs Tryz.prog (Builtin.append_ #[(45 : Nat), (45 : Nat)] (45 : Nat) #[Value.slice o124 n125 n126, Value.slice o143 n144 n145]) w142 fun v146 w147 => isSl v146 fun o148 n149 n150 => u115 w147 ∧ isPtr (u58 (8 : Nat)) fun a151 => stC w147 (Addr.add a151 (4 : Nat)) [Value.slice o148 n149 n150] fun w152 => isPtr (u58 (8 : Nat)) fun a153 => rd (cellsAt w152 a153 (5 : Nat)) fun l154 => callV Tryz.prog (27 : Nat) [Value.agg (List.toArray l154)] w152 fun v155 w156 => isTup v155 fun l157 => rd l157[(0 : Nat)]? fun v158 => isSl v158 fun o159 n160 n161 => isTup v155 fun l162 => rd l162[(1 : Nat)]? fun v163 => isK IntKind.i64 v163 fun i164 => br (!decide (i164 = (0 : Int))) (u98 (alist [((9 : Nat), u105 (9 : Nat))]) w156) (rd (World.cell? w156 { block := n95, off := (2 : Nat) : Addr }) fun v165 => isSl v165 fun o166 n167 n168 => runs Tryz.prog (Instr.buildSlice (65 : Nat) (1 : Nat) #[((0 : Nat), Value.pointer o114)]) w156 fun v169 w170 => isSl v169 fun o171 n172 n173 => runs Tryz.prog (Builtin.append_ #[(65 : Nat), (65 : Nat)] (65 : Nat) #[Value.slice o166 n167 n168, Value.slice o171 n172 n173]) w170 fun v174 w175 => isSl v174 fun o176 n177 n178 => stC w175 { block := n95, off := (2 : Nat) : Addr } [Value.slice o176 n177 n178] fun w179 => rd (orO (binV BinOp.add (u105 (57 : Nat)) (Value.int IntKind.i64 (1 : Int))) none) fun v180 => isK IntKind.i64 v180 fun i181 => again u103 u104 (alist [((9 : Nat), Value.slice o159 n160 n161), ((57 : Nat), Value.int IntKind.i64 i181)]) w179 (alist [((9 : Nat), u105 (9 : Nat)), ((57 : Nat), u105 (57 : Nat))]) w106)) (u98 (alist [((9 : Nat), u105 (9 : Nat))]) w106)) fun u182 => ∀ (u183 : Nat → Value) (w184 : World), u182 (alist [((9 : Nat), u183 (9 : Nat))]) w184 → heldC (World.drew w184) fun u186 => (∀ (w187 : World), u186 w187 → Value.pointer (some a) = Value.pointer (some a) ∧ w187 = w187) ∧ (∀ (w189 : World), u186 w189 → Value.pointer (some a) = Value.pointer (some a) ∧ w189 = w189) ∧ (∀ (w191 : World), u186 w191 → Value.pointer (some a) = Value.pointer (some a) ∧ w191 = w191) ∧ (∀ (w193 : World), u186 w193 → Value.pointer (some (Addr.add a (2 : Nat))) = Value.pointer (some (Addr.add a (2 : Nat))) ∧ w193 = w193) ∧ rd (World.cell? (World.drew w184) (Addr.add a (2 : Nat))) fun v195 => (∀ (w196 : World), u186 w196 → rd (World.cell? w196 (Addr.add a (2 : Nat))) fun v198 => v198 = v195 ∧ w196 = w196) ∧ isSl v195 fun o199 n200 n201 => rd (cellsAt (World.drew w184) { block := n95, off := (0 : Nat) : Addr } (3 : Nat)) fun l202 => (∀ (w203 : World), u186 w203 → rd (cellsAt w203 { block := n95, off := (0 : Nat) : Addr } (3 : Nat)) fun l205 => Value.agg (List.toArray l205) = Value.agg (List.toArray l202) ∧ w203 = w203) ∧ runs Tryz.prog (Instr.buildSlice (66 : Nat) (1 : Nat) #[((0 : Nat), Value.agg (List.toArray l202))]) (World.drew w184) fun v206 w207 => isSl v206 fun o208 n209 n210 => u186 w207 ∧ runs Tryz.prog (Builtin.append_ #[(66 : Nat), (66 : Nat)] (66 : Nat) #[Value.slice o199 n200 n201, Value.slice o208 n209 n210]) w207 fun v211 w212 => isSl v211 fun o213 n214 n215 => u186 w212 ∧ stC w212 (Addr.add a (2 : Nat)) [Value.slice o213 n214 n215] fun w216 => heldC (World.drew w216) fun u217 => (∀ (w218 : World), u217 w218 → Value.pointer (some a) = Value.pointer (some a) ∧ w218 = w218) ∧ (∀ (w220 : World), u217 w220 → Value.pointer (some a) = Value.pointer (some a) ∧ w220 = w220) ∧ (∀ (w222 : World), u217 w222 → Value.pointer (some a) = Value.pointer (some a) ∧ w222 = w222) ∧ (∀ (w224 : World), u217 w224 → Value.pointer (some (Addr.add a (2 : Nat))) = Value.pointer (some (Addr.add a (2 : Nat))) ∧ w224 = w224) ∧ rd (World.cell? (World.drew w216) (Addr.add a (2 : Nat))) fun v226 => (∀ (w227 : World), u217 w227 → rd (World.cell? w227 (Addr.add a (2 : Nat))) fun v229 => v229 = v226 ∧ w227 = w227) ∧ isSl v226 fun o230 n231 n232 => (∀ (w233 : World), u217 w233 → Value.pointer (some a) = Value.pointer (some a) ∧ w233 = w233) ∧ (∀ (w235 : World), u217 w235 → Value.pointer (some a) = Value.pointer (some a) ∧ w235 = w235) ∧ (∀ (w237 : World), u217 w237 → Value.pointer (some (Addr.add a (2 : Nat))) = Value.pointer (some (Addr.add a (2 : Nat))) ∧ w237 = w237) ∧ rd (World.cell? (World.drew w216) (Addr.add a (2 : Nat))) fun v239 => (∀ (w240 : World), u217 w240 → rd (World.cell? w240 (Addr.add a (2 : Nat))) fun v242 => v242 = v239 ∧ w240 = w240) ∧ isSl v239 fun o243 n244 n245 => (∀ (w246 : World), u217 w246 → Value.int IntKind.i64 (↑n244 : Int) = Value.int IntKind.i64 (↑n244 : Int) ∧ w246 = w246) ∧ (∀ (w248 : World), u217 w248 → Value.int IntKind.i64 (IntKind.wrap IntKind.i64 ((↑n244 : Int) - (64 : Int))) = Value.int IntKind.i64 (IntKind.wrap IntKind.i64 ((↑n244 : Int) - (64 : Int))) ∧ w248 = w248) ∧ (∀ (w250 : World), u217 w250 → Value.int IntKind.i64 (max (0 : Int) (IntKind.wrap IntKind.i64 ((↑n244 : Int) - (64 : Int)))) = Value.int IntKind.i64 (max (0 : Int) (IntKind.wrap IntKind.i64 ((↑n244 : Int) - (64 : Int)))) ∧ w250 = w250) ∧ runs Tryz.prog (Instr.sliceAt (66 : Nat) (Value.slice o230 n231 n232) (some (Value.int IntKind.i64 (max (0 : Int) (IntKind.wrap IntKind.i64 ((↑n244 : Int) - (64 : Int)))))) none none) (World.drew w216) fun v252 w253 => (∀ (w254 : World), u217 w254 → runs Tryz.prog (Instr.sliceAt (66 : Nat) (Value.slice o230 n231 n232) (some (Value.int IntKind.i64 (max (0 : Int) (IntKind.wrap IntKind.i64 ((↑n244 : Int) - (64 : Int)))))) none none) w254 fun v256 w257 => v256 = v252 ∧ w257 = w254) ∧ isSl v252 fun o258 n259 n260 => stC (World.drew w216) (Addr.add a (2 : Nat)) [Value.slice o258 n259 n260] fun w261 => rd (World.cell? w261 a) fun v262 => isK IntKind.u16 v262 fun i263 => stC w261 a [Value.int IntKind.u16 (IntKind.wrap IntKind.u16 (i263 + (1 : Int)))] fun w264 => isSl (u183 (9 : Nat)) fun o265 n266 n267 => R (Value.tuple #[Value.slice o265 n266 n267, Value.int IntKind.i64 (0 : Int)]) w264)) :
 callV Tryz.prog 10 [Value.pointer (some a), Value.slice bp bn bc, Value.int IntKind.u32 c] w R :=
 vc_of hm ⟨fun n => match n with | 2 => true | 4 => true | 16 => true | _ => false, fun n => match n with | 1 => .take 0 (.take 1 (.take 2 (.take 3 (.take 4 (.take 5 (.take 6 (.take 8 (.two 7 (.two 9 (.take 10 (.one 11 (.last 12 (.done)))) 11 (.one 9 (.take 10 (.last 12 (.done))))) 11 (.one 7 (.one 9 (.take 10 (.last 12 (.done))))))))))))) | 11 => .take 0 (.take 1 (.take 2 (.take 3 (.take 4 (.take 5 (.one 6 (.one 7 (.last 8 (.last 9 (.done)))))))))) | 16 => .take 0 (.take 1 (.take 2 (.take 3 (.take 4 (.take 5 (.one 6 (.one 7 (.last 8 (.last 9 (.last 10 (.done))))))))))) | 17 => .take 0 (.take 1 (.take 2 (.take 3 (.take 4 (.take 5 (.take 6 (.take 7 (.take 8 (.take 9 (.take 10 (.take 11 (.take 12 (.last 13 (.last 14 (.last 15 (.done)))))))))))))))) | _ => .done, fun n => match n with | 2 => [8] | 4 => [] | 16 => [9] | 9 => [9, 57] | _ => []⟩ Tryz.func10 ent10 (by kernel_rfl) h
end Go.Proofs.YtipikchkbmgloaaGreatDoor
namespace Go.Proofs.YtipikchkbmgloaaGreatDoor
set_option linter.unusedSimpArgs false
set_option linter.unusedVariables false
open Go Go.RowKit VC
variable {w : World}
theorem RowMsgs.base {base b N : Nat} {sv : Value} {ms : List Msg} (h : RowMsgs w base N sv ms) (hb : b ≤ base) : RowMsgs w b N sv ms := by
 obtain ⟨qs, h1, h2, h3⟩ := h
 exact ⟨qs, h1, own_base h2 hb, h3⟩
theorem clone38_c {ms : List Msg} {p : Option Addr} {c N : Nat} (hm : MsgsAt w N p ms) (hN : N ≤ w.heap.size) (hl : ms.length ≤ 1000) :
  callV Tryz.prog 25 [.slice p ms.length c] w fun v w' => RowMsgs w' w.heap.size N v ms ∧ Fm none' w w' := by
 refine vc25 p ms.length c w _ ?_
 cases p with
 | none =>
  have : ms = [] := by
   cases ms with
   | nil => rfl
   | cons m l => obtain ⟨_, _, _, e, _⟩ := hm 0 m rfl; cases e
  subst this
  exact ⟨RowMsgs.nil _ _ _, Fm.refl _ _⟩
 | some ad =>
  change runs _ _ _ _
  refine build_noneS (by rw [row45]) row41 fun w1 hs hlt1 hf1 => ?_
  change runs _ _ _ _
  refine app_rows (base := w.heap.size) rfl hs (hm.keep hf1 fun _ _ => id) hN hf1.size hl fun v w2 hr hf2 => ?_
  obtain ⟨o, d, rfl⟩ := rowSl hr
  refine ⟨hr, hf1.trans' hf2 fun i hi e => ?_⟩
  have := (own_block hs e).1
  omega
section
variable {F : Nat → Prop} {A : Nat} {bl : Nat → Nat} {mk : Nat → Bool} {c : Ch} {wv sv : Value}
theorem HasAt.up {F' : Nat → Prop} {n : Nat} {ids : List Nat} {h : Value} (H : HasAt w F wv bl n ids h) (hF : ∀ i, F i → F' i) : HasAt w F' wv bl n ids h := ⟨H.own, fun i hi => ⟨hF i (H.inF i hi).1, (H.inF i hi).2⟩, H.lt⟩
theorem Core.up {F' : Nat → Prop} (h : Core w F A bl mk c wv sv) (hF : ∀ i, F i → F' i) (hl : ∀ i, F' i → i < w.heap.size) : Core w F' A bl mk c wv sv :=
 { h with fA := hF A h.fA, lt := hl, fw := fun i hi => hF i (h.fw i hi), ids := fun i hi => ⟨hF _ (h.ids i hi).1, (h.ids i hi).2⟩, msgs := fun x hx => (h.msgs x hx).imp id (And.imp id fun ⟨q, cq, h3, h4⟩ => ⟨q, cq, h3, h4.mono hF⟩) }
theorem SentAt.up {F' : Nat → Prop} {n : Nat} {es : List Ent} {hs : List Value} (h : SentAt w F bl n es wv sv hs) (hF : ∀ i, F i → F' i) : SentAt w F' bl n es wv sv hs :=
 { h with fs := fun i hi => hF i (h.fs i hi), has := fun j e x he hh => (h.has j e x he hh).up hF }
theorem ptrs_congr {bl' : Nat → Nat} {ids : List Nat} (h : ∀ i ∈ ids, bl' i = bl i) : ptrs bl' ids = ptrs bl ids := by
 unfold ptrs
 induction ids with
 | nil => rfl
 | cons i ids ih =>
  rw [List.flatMap_cons, List.flatMap_cons, ih fun j hj => h j (List.mem_cons_of_mem _ hj)]
  simp only [ptr1, adOf, h i List.mem_cons_self]
set_option maxRecDepth 20000 in
set_option maxHeartbeats 2000000 in
theorem push19_c {m : Msg} {p : Option Addr} {cp : Nat} (h : ChAt w F A c) (hm : Mok m) (hy : BytesAt w p m.bytes) (hp : ∀ ad, p = some ad → m.bytes ≠ [] → ad.block < w.heap.size) (hl : m.bytes.length ≤ 1000000) :
  callV Tryz.prog 7 [.pointer (some ⟨A, 0, none⟩), .agg (msgC m p cp).toArray] w fun v w' => v = .int .i64 (pushC c m).1 ∧ ChAt w' (FNew F w w') A (pushC c m).2 ∧ Fm F w w' := by
 obtain ⟨bl, mk, wv, sv, hs, hc, hS, hmk⟩ := h
 unfold msgC
 apply vc7
 refine allocC_of fun w1 hb1 hs1 hf1 => ?_
 change w1.heap[w.heap.size]? = some (.cells (msgC m p cp).toArray 41 (0, 0)) at hb1
 refine rd_of (v := msgC m p cp) (cells_all hb1 rfl) ?_
 have hupF : ∀ w' : World, ∀ i, F i → FNew F w w' i := fun _ i h => .inl h
 have hfn : ∀ w' : World, w.heap.size ≤ w'.heap.size → ∀ i, FNew F w w' i → i < w'.heap.size := fun w' hle i hi => hi.elim (fun h => Nat.lt_of_lt_of_le (hc.lt i h) hle) (·.2)
 have stay : ∀ w', Fm none' w w' → ChAt w' (FNew F w w') A c := fun w' hf =>
  ⟨bl, mk, wv, sv, hs, (hc.keep hf fun _ _ _ _ _ _ => id).up (hupF w') (hfn w' hf.size), (hS.keep hf fun _ _ _ _ _ _ => id).up (hupF w'), hmk⟩
 refine (right16_c hm (hy.keep hf1 fun _ _ => id) (fun ad e hne => Nat.lt_of_lt_of_le (hp ad e hne) hf1.size) (by omega)).mono ?_
 rintro _ w4 ⟨rfl, hf4⟩
 simp only [vq, eqV, nilV]
 have hF4 := hf1.trans hf4
 cases hr : rightM m with
 | false =>
  simp only [Bool.not_false, vq, eqV, nilV]
  have e : pushC c m = (1, c) := by unfold pushC; rw [if_pos hr]
  rw [e]
  exact ⟨rfl, stay w4 hF4, hF4.none⟩
 | true =>
  simp only [Bool.not_true, vq, eqV, nilV]
  have hc4 : Core w4 F A bl mk c wv sv := hc.keep hF4 fun _ _ _ _ _ _ => id
  have k1 : w4.cell? ⟨A, 1, none⟩ = some wv := cellOf hc4.box rfl
  obtain ⟨pw, cw, hwv⟩ := hc.wvSl
  have hb4 := hf4.keep hb1 id
  have k2 : w4.cell? ⟨w.heap.size, 22, none⟩ = some (.slice p m.bytes.length cp) := cellOf hb4 rfl
  simp only [addr_add, Nat.zero_add, k1, hwv, k2, vq, eqV, nilV]
  refine br_dec (fun hfull => ?_) (fun hfull => ?_)
  ·have e : pushC c m = (5, c) := by unfold pushC; rw [if_neg (by rw [hr]; simp), if_pos (by omega)]
   rw [e]
   exact ⟨rfl, stay w4 hF4, hF4.none⟩
  have e : pushC c m = (0, { c with wait := c.wait ++ [(c.pushed, m)], pushed := c.pushed + 1 }) := by unfold pushC; rw [if_neg (by rw [hr]; simp), if_neg (by omega)]
  rw [e]
  have hok : Rok m := rok_of hm (by omega) hr
  refine (clone46_c (c := cp) (hy.keep hF4 fun _ _ => id) (Nat.le_refl _) (by omega)).mono ?_
  rintro vb w15 ⟨hob, hbn, hf15⟩
  obtain ⟨qb, cb, rfl, -⟩ := own_read hob
  simp only [vq, eqV, nilV]
  have hF15 := hF4.trans hf15
  have hb15 := hf15.keep hb4 id
  refine stC_one hb15 (by simp [msgC]) rfl fun w19 hb19 hf19 => ?_
  have hb19' : w19.heap[w.heap.size]? = some (.cells (msgC m qb cb).toArray 41 (0, 0)) := hb19
  have hF19 : Fm none' w w19 := hF15.trans' hf19 fun i hi e => by omega
  obtain ⟨N, hN⟩ : ∃ N, N = w.heap.size := ⟨_, rfl⟩
  rw [← hN] at hb19' ⊢
  have hc19 : Core w19.drew F A bl mk c wv sv := hc.keep (hF19.trans (Fm.drew w19)) fun _ _ _ _ _ _ => id
  have kA : w19.drew.cell? ⟨A, 1, none⟩ = some (.slice pw c.wait.length cw) := by rw [← hwv]; exact cellOf (w := w19.drew) hc19.box rfl
  have kM : cellsAt w19.drew ⟨N, 0, none⟩ 23 = some (msgC m qb cb) := cells_all (w := w19.drew) hb19' rfl
  have hAN : N ≠ A := by have := hc.lt A hc.fA; omega
  refine ⟨fun w' => Fm (fun i => wv.ownBlock = some i) w19.drew w', Fm.refl _ _, ?_⟩
  have hwA : ¬ wv.ownBlock = some A := fun hw => by
   obtain ⟨_, cur, hcur⟩ := own_block hc19.own hw
   have := hc19.box
   unfold BoxA at this
   rw [hcur] at this; cases this
  have hwN : ¬ wv.ownBlock = some N := fun hw => by have := hc.lt N (hc.fw N hw); omega
  refine rd_of kA ⟨fun w' hf => rd_of (hf.cell kA hwA) rfl, ?_⟩
  simp only [vq, eqV, nilV]
  refine rd_of kM ⟨fun w' hf => rd_of (hf.cells hwN kM) rfl, ?_⟩
  refine rd_of (v := ()) rfl ⟨fun w' hf => rd_of (v := ()) rfl trivial, ?_⟩
  refine rd_of (v := ()) rfl ?_
  refine allocC_of fun w43 hb43 hs43 hf43 => ?_
  obtain ⟨K, hK⟩ : ∃ K, K = w19.drew.heap.size := ⟨_, rfl⟩
  rw [← hK] at hb43 ⊢
  have hb43' : w43.heap[K]? = some (.cells (wtC m qb cb false).toArray 77 (0, 0)) := hb43
  refine ⟨hf43.none, ?_⟩
  refine build_1 (by rw [row65]) row75 rfl rfl fun w45 hb45 hs45 hf45 => ?_
  simp only [vq, eqV, nilV]
  refine ⟨(hf43.trans hf45).none, ?_⟩
  have hown45 : w45.ownsRow 0 75 1 (.slice pw c.wait.length cw) c.wait.length (ptrs bl (c.wait.map (·.1))) := by
   rw [← hwv]
   exact (hf43.trans hf45).owns hc19.own fun _ _ => id
  have hmany := hc.many
  refine append_r (ys := [.pointer (some ⟨K, 0, none⟩)]) (by rw [row65]) row75 rfl hown45 rfl (by simp [Value.oneCell']) (fun j y hj => ?_) (Nat.zero_le _) (by simp only [maxLen]; omega) (by omega) fun p' c' w50 ho50 hf50 hblk50 => ?_
  ·match j, hj with
   | 0, hj =>
    simp at hj; subst hj
    exact ⟨_, rfl, by rw [addr_add]; exact cellOf hb45 rfl⟩
  simp only [vq, eqV, nilV]
  rw [← hwv] at hf50 hblk50
  have hF50 : Fm (fun i => wv.ownBlock = some i) w19.drew w50 := (hf43.trans hf45).none.trans hf50
  refine ⟨hF50, ?_⟩
  have hbox50 := hF50.keep hc19.box hwA
  refine stC_one hbox50 (by simp) rfl fun w54 hb54 hf54 => ?_
  have hblkne : ∀ i C t, w50.heap[i]? = some (.cells C t (0, 0)) → t ≠ 70 → ¬ i = A := by
   rintro i C t hi ht rfl
   rw [hbox50] at hi; cases hi; exact ht rfl
  obtain ⟨F', hF'⟩ : ∃ F', F' = FNew F w w54 := ⟨_, rfl⟩
  have hs43' : w43.heap.size = K + 1 := by rw [hK]; exact hs43
  have hKw : w.heap.size ≤ K := by rw [hK]; exact (hF19.trans (Fm.drew w19)).size
  have hs45' : w45.heap.size = K + 2 := by rw [hs45, hs43']
  have h50 := hf50.size
  have h54 := hf54.size
  have hwB : ∀ i, wv.ownBlock = some i → i < w.heap.size := fun i hi => hc.lt i (hc.fw i hi)
  have hFall : Fm F w w54 := (((hF19.trans (Fm.drew w19)).none.trans (hF50.mono fun i _ hi => hc.fw i hi)).trans (hf54.mono fun i _ e => e ▸ hc.fA))
  have hsub : ∀ i, F i → F' i := fun i hi => by rw [hF']; exact .inl hi
  have hnew : ∀ i, w.heap.size ≤ i → i < w54.heap.size → F' i := fun i h1 h2 => by rw [hF']; exact .inr ⟨h1, h2⟩
  have hblK : ∀ i, i < c.pushed → bl i < w.heap.size := fun i hi => hc.lt _ (hc.ids i hi).1
  -- the new number's block
  obtain ⟨bl', hbl'⟩ : ∃ bl' : Nat → Nat, bl' = fun i => if i = c.pushed then K else bl i := ⟨_, rfl⟩
  have hblo : ∀ i, i < c.pushed → bl' i = bl i := fun i hi => by rw [hbl']; exact if_neg (by omega)
  have hbln : bl' c.pushed = K := by rw [hbl']; exact if_pos rfl
  obtain ⟨mk', hmk'⟩ : ∃ mk' : Nat → Bool, mk' = fun i => if i = c.pushed then false else mk i := ⟨_, rfl⟩
  have hmko : ∀ i, i < c.pushed → mk' i = mk i := fun i hi => by rw [hmk']; exact if_neg (by omega)
  have hmkn : mk' c.pushed = false := by rw [hmk']; exact if_pos rfl
  have hpo : ∀ ids : List Nat, (∀ i ∈ ids, i < c.pushed) → ptrs bl' ids = ptrs bl ids := fun ids h => ptrs_congr fun i hi => hblo i (h i hi)
  have hwlt : ∀ i ∈ c.wait.map (·.1), i < c.pushed := fun i hi => by
   obtain ⟨x, hx, rfl⟩ := List.mem_map.1 hi
   exact (hc.msgs x hx).1
  have keepF : ∀ (i : Nat) (C : Array Value) (t : TypeId), w19.drew.heap[i]? = some (Obj.cells C t (0, 0)) → t ≠ 70 → t ≠ 75 → w54.heap[i]? = some (Obj.cells C t (0, 0)) := fun i C t hi h1 h2 => by
   have hn : ¬ wv.ownBlock = some i := fun hw => by
    obtain ⟨_, cur, hcur⟩ := own_block hc19.own hw
    rw [hi] at hcur; cases hcur; exact h2 rfl
   exact hf54.keep (hF50.keep hi hn) (hblkne i C t (hF50.keep hi hn) h1)
  have hK54 : w54.heap[K]? = some (.cells (wtC m qb cb false).toArray 77 (0, 0)) := by
   have hk50 : w50.heap[K]? = some (.cells (wtC m qb cb false).toArray 77 (0, 0)) := hf50.keep (hf45.keep hb43' id) fun hw => by have := hwB K hw; omega
   exact hf54.keep hk50 (hblkne _ _ _ hk50 (by decide))
  have hvb : (Value.slice p' (c.wait.length + 1) c').ownBlock = wv.ownBlock ∨ ∃ i, (Value.slice p' (c.wait.length + 1) c').ownBlock = some i ∧ w.heap.size ≤ i ∧ i < w54.heap.size := by
   rcases hblk50 with h | h
   ·exact .inl h
   ·have := own_block ho50 h
    obtain ⟨_, cur, hcur⟩ := this
    exact .inr ⟨_, h, by omega, by have := lt_of_blk hcur; omega⟩
  rw [← hF']
  refine ⟨⟨bl', mk', .slice p' (c.wait.length + 1) c', sv, hs, ⟨hb54, hsub A hc.fA, fun i hi => hfn w54 hFall.size i (hF' ▸ hi), hc.wok, hc.next, hc.heard, hc.rtt, ?_, ?_, ?_, ?_, ?_, ?_⟩, ?_, ?_⟩, hFall⟩
  ·have hf : w54.ownsRow 0 75 1 (.slice p' (c.wait.length + 1) c') (c.wait.length + 1) (ptrs bl (c.wait.map (·.1)) ++ [.pointer (some ⟨K, 0, none⟩)]) := by
    refine hf54.owns ho50 fun i hi => ?_
    obtain ⟨_, cur, hcur⟩ := own_block ho50 hi
    exact hblkne i _ _ hcur (by decide)
   have e1 : ptrs bl' ((c.wait ++ [(c.pushed, m)]).map (·.1)) = ptrs bl (c.wait.map (·.1)) ++ [.pointer (some ⟨K, 0, none⟩)] := by
    rw [List.map_append]
    have : ptrs bl' (c.wait.map (·.1) ++ [c.pushed]) = ptrs bl' (c.wait.map (·.1)) ++ ptrs bl' [c.pushed] := by unfold ptrs; rw [List.flatMap_append]
    show ptrs bl' (c.wait.map (·.1) ++ [c.pushed]) = _
    rw [this, hpo _ hwlt]
    congr 1
    simp [ptrs, ptr1, adOf, hbln]
   show w54.ownsRow 0 75 1 _ (c.wait ++ [(c.pushed, m)]).length (ptrs bl' ((c.wait ++ [(c.pushed, m)]).map (·.1)))
   rw [e1, List.length_append]
   exact hf
  ·intro i hi
   rw [hF']
   rcases hvb with h | ⟨j, h, h1, h2⟩
   ·rw [h] at hi; exact .inl (hc.fw i hi)
   ·rw [h] at hi; cases hi; exact .inr ⟨h1, h2⟩
  ·intro i hi
   by_cases hic : i = c.pushed
   ·subst hic
    rw [hbln, hmkn]
    exact ⟨hnew K hKw (by omega), msgC m qb cb, rfl, hK54⟩
   ·have hi' : i < c.pushed := by have : i < c.pushed + 1 := hi; omega
    obtain ⟨h1, cs, h2, h3⟩ := hc19.ids i hi'
    rw [hblo i hi', hmko i hi']
    exact ⟨hsub _ h1, cs, h2, keepF _ _ _ h3 (by decide) (by decide)⟩
  ·intro i j hi hj hij
   have hi' : i < c.pushed + 1 := hi
   have hj' : j < c.pushed + 1 := hj
   by_cases h1 : i = c.pushed
   ·by_cases h2 : j = c.pushed
    ·omega
    ·rw [h1, hbln, hblo j (by omega)] at hij
     have := hblK j (by omega); omega
   ·by_cases h2 : j = c.pushed
    ·rw [h2, hbln, hblo i (by omega)] at hij
     have := hblK i (by omega); omega
    ·rw [hblo i (by omega), hblo j (by omega)] at hij
     exact hc.inj i j (by omega) (by omega) hij
  ·intro x hx
   rcases List.mem_append.1 hx with hx | hx
   ·obtain ⟨h1, h2, q, cq, h3, h4⟩ := hc19.msgs x hx
    rw [hblo _ h1, hmko _ h1]
    refine ⟨Nat.lt_succ_of_lt h1, h2, q, cq, keepF _ _ _ h3 (by decide) (by decide), ?_⟩
    have h5 : OwnB w54 F q cq x.2.bytes := h4.keep (S := fun i => wv.ownBlock = some i ∨ i = A) ((hF50.mono fun i _ e => .inl e).trans (hf54.mono fun i _ e => .inr e)) (by
     rintro i C hi _ (hw | rfl)
     ·obtain ⟨_, cur, hcur⟩ := own_block hc19.own hw
      rw [hi] at hcur; cases hcur
     ·have := hc19.box
      unfold BoxA at this
      rw [hi] at this; cases this)
    exact h5.mono hsub
   ·obtain rfl : x = (c.pushed, m) := by simpa using hx
    simp only [hbln, hmkn]
    refine ⟨Nat.lt_succ_self _, hok, qb, cb, hK54, ?_, ?_⟩
    ·have o19 : w19.drew.ownsRow 0 5 1 (.slice qb m.bytes.length cb) m.bytes.length (m.bytes.map (Value.int .u8)) := own_base ((hf19.owns hob fun i hi e => by
      have := hbn i hi
      obtain ⟨_, cur, hcur⟩ := own_block hob hi
      rw [e, hb15] at hcur; cases hcur)) (Nat.zero_le _)
     have o50 := hF50.owns o19 fun i hi hw => by
      obtain ⟨_, cur, hcur⟩ := own_block hc19.own hw
      obtain ⟨_, cur2, hcur2⟩ := own_block o19 hi
      rw [hcur] at hcur2; cases hcur2
     refine hf54.owns o50 fun i hi => ?_
     obtain ⟨_, cur, hcur⟩ := own_block o50 hi
     exact hblkne i _ _ hcur (by decide)
    ·intro i hi
     have h1 := hbn i hi
     obtain ⟨_, cur, hcur⟩ := own_block hob hi
     have h2 := lt_of_blk hcur
     have h3 := hF4.size
     have h5 := hf19.size
     have h6 : K = w19.heap.size := hK
     exact hnew i (by omega) (by omega)
  ·show (c.wait ++ [(c.pushed, m)]).length ≤ 64
   rw [List.length_append]
   have : c.wait.length ≠ 64 := by omega
   simp; omega
  ·have hS19 : SentAt w19.drew F bl c.pushed c.sent wv sv hs := hS.keep (hF19.trans (Fm.drew w19)) fun _ _ _ _ _ _ => id
   have hS50 := hS19.keep hF50 fun i C t hi _ ht => by
    rcases ht with rfl | ⟨rfl, h⟩
    ·intro hw
     obtain ⟨_, cur, hcur⟩ := own_block hc19.own hw
     rw [hi] at hcur; cases hcur
    ·exact h
   have hS54 := hS50.keep hf54 fun i C t hi _ ht => hblkne i C t hi (by rcases ht with rfl | ⟨rfl, _⟩ <;> decide)
   refine ⟨hS54.len, hS54.own, fun i hi => hsub i (hS54.fs i hi), fun j e hv he hh => ?_, hS54.rng⟩
   have hh' := hS54.has j e hv he hh
   refine ⟨by rw [hpo _ hh'.lt]; exact hh'.own, fun i hi => ⟨hsub i (hh'.inF i hi).1, ?_⟩, fun i hi => Nat.lt_succ_of_lt (hh'.lt i hi)⟩
   rcases hvb with h | ⟨k, h, h1, h2⟩
   ·rw [h]; exact (hh'.inF i hi).2
   ·rw [h]
    intro e
    cases e
    have := hc.lt i (hh'.inF i hi).1
    omega
  ·intro x hx
   rcases List.mem_append.1 hx with hx | hx
   ·rw [hmko _ (hc.msgs x hx).1]; exact hmk x hx
   ·obtain rfl : x = (c.pushed, m) := by simpa using hx
    exact hmkn
end
end Go.Proofs.YtipikchkbmgloaaGreatDoor
namespace Go.Proofs.YtipikchkbmgloaaGreatDoor
set_option linter.unusedSimpArgs false
set_option linter.unusedVariables false
open Go Go.RowKit VC
variable {w : World}
def dgCs (d : Dg) (p : Option Addr) (c : Nat) : Array Value := #[.int .u16 d.seq, .bool d.any, .int .u16 d.last, .int .u32 d.bits, .slice p d.list.length c]
structure DgAt (W : World) (B D : Nat) (d : Dg) (p : Option Addr) (c : Nat) : Prop where
 blk : W.heap[D]? = some (.cells (dgCs d p c) 96 (0, 0))
 rows : RowMsgs W B B (.slice p d.list.length c) d.list
theorem DgAt.keep {W W' : World} {B D : Nat} {d : Dg} {p : Option Addr} {c : Nat} (h : DgAt W B D d p c) (f : Fm none' W W') : DgAt W' B D d p c := ⟨f.keep h.blk id, h.rows.keep f fun _ _ => id⟩
theorem fitN_split (d : Dg) : ∀ (ms : List Msg) (j : Nat), fitN d ms = j + fitN { d with list := d.list ++ ms.take j } (ms.drop j) → ∀ m, ms[j]? = some m → (encD { d with list := d.list ++ ms.take j ++ [m] }).2 = 0 →
  fitN d ms = (j + 1) + fitN { d with list := d.list ++ ms.take (j + 1) } (ms.drop (j + 1)) := by
 intro ms j h m hm hok
 have hj : j < ms.length := (List.getElem?_eq_some_iff.1 hm).1
 have e1 : ms.drop j = m :: ms.drop (j + 1) := by
  rw [List.drop_eq_getElem_cons hj]
  congr 1
  exact (List.getElem?_eq_some_iff.1 hm).2
 have e2 : ms.take (j + 1) = ms.take j ++ [m] := by rw [List.take_add_one, hm]; rfl
 rw [h, e1, fitN, if_pos hok, e2, ← List.append_assoc]
 show j + (fitN { d with list := d.list ++ ms.take j ++ [m] } (ms.drop (j + 1)) + 1) = _
 omega
theorem fitN_stop (d : Dg) : ∀ (ms : List Msg) (j : Nat), fitN d ms = j + fitN { d with list := d.list ++ ms.take j } (ms.drop j) → ∀ m, ms[j]? = some m → (encD { d with list := d.list ++ ms.take j ++ [m] }).2 ≠ 0 → fitN d ms = j := by
 intro ms j h m hm hok
 have hj : j < ms.length := (List.getElem?_eq_some_iff.1 hm).1
 have e1 : ms.drop j = m :: ms.drop (j + 1) := by
  rw [List.drop_eq_getElem_cons hj]
  congr 1
  exact (List.getElem?_eq_some_iff.1 hm).2
 rw [h, e1, fitN, if_neg hok]
 rfl
theorem fitN_le (d : Dg) : ∀ (ms : List Msg), fitN d ms ≤ ms.length := by
 intro ms
 induction ms generalizing d with
 | nil => exact Nat.le_refl _
 | cons m ms ih =>
  unfold fitN
  split
  ·have := ih { d with list := d.list ++ [m] }
   rw [List.length_cons]; omega
  ·omega
section
variable {F : Nat → Prop} {A : Nat} {bl : Nat → Nat} {mk : Nat → Bool} {c : Ch} {wv sv : Value}
set_option maxRecDepth 20000 in
set_option maxHeartbeats 4000000 in
theorem pack17_c {l : List Msg} {p : Option Addr} {cp now N : Nat} (hH : Halves w) (h : ChAt w F A c) (hm : MsgsAt w N p l) (hN : N ≤ w.heap.size) (hok : Msok l) (hll : l.length ≤ 900) (hnow : now < 4294967296) (hsl : c.sent.length < 64) :
  callV Tryz.prog 10 [.pointer (some ⟨A, 0, none⟩), .slice p l.length cp, .int .u32 now] w fun v w' =>
   ∃ q e F', v = .tuple #[.slice q (packC c l now).1.1.length e, .int .i64 (packC c l now).1.2] ∧
    w'.ownsRow w.heap.size 5 1 (.slice q (packC c l now).1.1.length e) (packC c l now).1.1.length ((packC c l now).1.1.map (Value.int .u8)) ∧ (∀ i, (Value.slice q (packC c l now).1.1.length e).ownBlock = some i → ¬ F' i) ∧
    ChAt w' F' A (packC c l now).2 ∧ (∀ i, F' i → F i ∨ w.heap.size ≤ i) ∧ Fm F w w' := by
 obtain ⟨bl, mk, wv, sv, hs, hc, hS, hmk⟩ := h
 obtain ⟨d, hd⟩ : ∃ d, d = packDg c l := ⟨_, rfl⟩
 have hdok : ∀ l', Dok { d with list := l' } := by
  intro l'
  have hw := hc.wok
  have hn := hc.next
  rw [hd]
  refine ⟨hn, ?_, ?_⟩
  ·show (if c.win.any = true then c.win.last else 0) < 65536
   split
   ·exact hw.last
   ·omega
  ·show (if c.win.any = true then c.win.bits else 0) < 4294967296
   split
   ·exact hw.bits
   ·omega
 have hdl : d.list = l := by rw [hd]; rfl
 have hB : ∀ i, F i → i < w.heap.size := hc.lt
 refine vc10 ⟨A, 0, none⟩ p l.length cp now w _ ?_
 have hcd : Core w.drew F A bl mk c wv sv := hc.keep (Fm.drew w) fun _ _ _ _ _ _ => id
 have hboxk : ∀ W, Fm none' w.drew W → BoxA W A (.int .u16 c.next) wv sv c.win (.int .i64 c.rtt) (.bool c.timed) (.int .u32 c.heard) := fun W hf => hf.keep hcd.box id
 refine ⟨fun u W => ∃ D q e, u 8 = .pointer (some ⟨D, 0, none⟩) ∧ w.heap.size ≤ D ∧ W.heap[D]? = some (.cells #[.int .u16 c.next, .bool c.win.any, .int .u16 0, .int .u32 0, .slice q l.length e] 96 (0, 0)) ∧ RowMsgs W w.heap.size w.heap.size (.slice q l.length e) l ∧ Fm none' w.drew W, ?_, ?_⟩
 ·-- the head
  refine ⟨fun W => Fm none' w.drew W, Fm.refl _ _, ?_⟩
  have k0 : ∀ W, Fm none' w.drew W → W.cell? ⟨A, 0, none⟩ = some (.int .u16 c.next) := fun W hf => cellOf (hboxk W hf) rfl
  simp only [vq, eqV, nilV]
  refine rd_of (v := .int .u16 c.next) (k0 w.drew (Fm.refl _ _)) ⟨fun W hf => rd_of (v := .int .u16 c.next) (k0 W hf) rfl, ?_⟩
  simp only [vq, eqV, nilV]
  simp only [addr_add, Nat.zero_add]
  have any : ∀ W, Fm none' w.drew W → callV Tryz.prog 24 [.pointer (some ⟨A, 3, none⟩)] W fun v w' => v = .bool c.win.any ∧ w' = W := fun W hf => any37_c (hboxk W hf).win
  have clone : ∀ W, Fm none' w.drew W → callV Tryz.prog 25 [.slice p l.length cp] W fun v w' => ∃ q e, v = .slice q l.length e ∧ RowMsgs w' w.heap.size w.heap.size (.slice q l.length e) l ∧ Fm none' W w' := fun W hf => by
   have hsz : w.heap.size ≤ W.heap.size := hf.size
   refine (clone38_c (c := cp) (hm.keep ((Fm.drew w).trans hf) fun _ _ => id) (Nat.le_trans hN hsz) (by omega)).mono ?_
   rintro v w' ⟨hr, hf'⟩
   obtain ⟨q, e, rfl⟩ := rowSl hr
   obtain ⟨qs, a1, a2, a3⟩ := hr.base hsz
   exact ⟨q, e, rfl, ⟨qs, a1, a2, fun j m q' hj hq => ⟨(a3 j m q' hj hq).1, fun ad e hne => Nat.lt_of_lt_of_le ((a3 j m q' hj hq).2 ad e hne) hN⟩⟩, hf'⟩
  have fin : ∀ (D : Nat) (W : World) (q : Option Addr) (e : Nat), w.heap.size ≤ D → W.heap[D]? = some (.cells #[.int .u16 0, .bool false, .int .u16 0, .int .u32 0, .slice none 0 0] 96 (0, 0)) → RowMsgs W w.heap.size w.heap.size (.slice q l.length e) l → Fm none' w.drew W →
    stC W ⟨D, 0, none⟩ [.int .u16 c.next, .bool c.win.any, .int .u16 0, .int .u32 0, .slice q l.length e] fun W' => ∃ D' q' e', alist [(8, .pointer (some ⟨D, 0, none⟩))] 8 = .pointer (some ⟨D', 0, none⟩) ∧ w.heap.size ≤ D' ∧ W'.heap[D']? = some (.cells #[.int .u16 c.next, .bool c.win.any, .int .u16 0, .int .u32 0, .slice q' l.length e'] 96 (0, 0)) ∧ RowMsgs W' w.heap.size w.heap.size (.slice q' l.length e') l ∧ Fm none' w.drew W' := by
   intro D W q e hD hb hr hf
   refine stC_all hb rfl (fun v hv => by simp at hv; rcases hv with rfl | rfl | rfl | rfl | rfl <;> rfl) fun W' hb' hf' => ?_
   refine ⟨D, q, e, rfl, hD, hb', ?_, hf.trans' hf' fun i hi e => by have h0 : w.drew.heap.size = w.heap.size := rfl; omega⟩
   obtain ⟨qs, a1, a2, a3⟩ := hr
   have ne : ∀ i C t, W.heap[i]? = some (.cells C t (0, 0)) → t ≠ 96 → ¬ i = D := by
    rintro i C t hi ht rfl
    rw [hb] at hi; cases hi; exact ht rfl
   refine ⟨qs, a1, hf'.owns a2 fun i hi => ?_, fun j m q' hj hq => ⟨(a3 j m q' hj hq).1.keepN hf' fun ad e hne hi => ?_, (a3 j m q' hj hq).2⟩⟩
   ·obtain ⟨_, cur, hcur⟩ := own_block a2 hi
    exact ne i _ _ hcur (by decide)
   ·have := (a3 j m q' hj hq).2 ad e hne
    omega
  have al : ∀ (W : World) (K : Nat → World → Prop), Fm none' w.drew W → (∀ D W1, W1.heap[D]? = some (.cells #[.int .u16 0, .bool false, .int .u16 0, .int .u32 0, .slice none 0 0] 96 (0, 0)) → w.heap.size ≤ D → Fm none' w.drew W1 → Fm none' W W1 → K D W1) →
    allocC W (.cells #[.int .u16 0, .bool false, .int .u16 0, .int .u32 0, .slice none 0 0] 96 (0, 0)) K := by
   intro W K hF k
   refine allocC_of fun W1 h1 _ h3 => ?_
   exact k _ W1 h1 hF.size (hF.trans h3) h3
  refine ⟨(any _ (Fm.refl _ _)).mono ?_, al _ _ (Fm.refl _ _) fun D W1 hb1 hD hF1 _ => ⟨hF1, (any _ hF1).mono ?_⟩⟩
  ·rintro _ _ ⟨rfl, rfl⟩
   simp only [vq, eqV, nilV]
   refine ⟨Fm.refl _ _, (clone _ (Fm.refl _ _)).mono ?_, al _ _ (Fm.refl _ _) fun D W1 hb1 hD hF1 _ => ⟨hF1, (clone _ hF1).mono ?_⟩⟩
   ·rintro _ W2 ⟨q, e, rfl, hr, hf⟩
    simp only [vq, eqV, nilV]
    refine ⟨hf, al _ _ hf fun D W1 hb1 hD hF1 hf1 => ⟨hF1, fin D W1 q e hD hb1 (hr.keep hf1 fun _ _ => id) hF1⟩⟩
   ·rintro _ W2 ⟨q, e, rfl, hr, hf⟩
    simp only [vq, eqV, nilV]
    exact ⟨hF1.trans hf, fin D W2 q e hD (hf.keep hb1 id) hr (hF1.trans hf)⟩
  ·rintro _ _ ⟨rfl, rfl⟩
   simp only [vq, eqV, nilV]
   refine ⟨hF1, (clone _ hF1).mono ?_⟩
   rintro _ W2 ⟨q, e, rfl, hr, hf⟩
   simp only [vq, eqV, nilV]
   exact ⟨hF1.trans hf, fin D W2 q e hD (hf.keep hb1 id) hr (hF1.trans hf)⟩
 rintro u w59 ⟨D, q0, e0, h8, hD, hb59, hr59, hf59⟩
 change u 8 = _ at h8
 have hF59 : Fm none' w w59 := (Fm.drew w).trans hf59
 have h0 : w.drew.heap.size = w.heap.size := rfl
 simp only [h8, vq, eqV, nilV]
 refine ⟨fun _ W => DgAt W w.heap.size D d q0 e0 ∧ Fm none' w W, ?_, ?_⟩
 ·-- the acknowledgement
  have k1 : w59.cell? ((⟨D, 0, none⟩ : Addr).add 1) = some (.bool c.win.any) := by rw [addr_add]; exact cellOf hb59 rfl
  simp only [k1, vq, eqV, nilV]
  cases ha : c.win.any with
  | false =>
   simp only [vq, eqV, nilV]
   refine ⟨⟨?_, ?_⟩, hF59⟩
   ·have e1 : dgCs d q0 e0 = #[.int .u16 c.next, .bool c.win.any, .int .u16 0, .int .u32 0, .slice q0 l.length e0] := by
     unfold dgCs
     rw [hd]
     simp only [packDg, ha]
     rfl
    rw [e1]; exact hb59
   ·rw [hdl]; exact hr59
  | true =>
   simp only [vq, eqV, nilV]
   simp only [addr_add, Nat.zero_add]
   refine (ack39_c (hboxk _ hf59).win).mono ?_
   rintro _ _ ⟨rfl, rfl⟩
   simp only [vq, eqV, nilV, List.getElem?_toArray, List.getElem?_cons_zero, List.getElem?_cons_succ]
   refine stC_one (w := w59.drew) hb59 (by simp) rfl fun w74 hb74 hf74 => ?_
   refine stC_one hb74 (by simp) rfl fun w76 hb76 hf76 => ?_
   have hf : Fm (fun i => i = D) w59 w76 := ((Fm.drew w59).none.trans hf74).trans hf76
   refine ⟨⟨?_, ?_⟩, hF59.trans' hf fun i hi e => by omega⟩
   ·have e1 : dgCs d q0 e0 = #[.int .u16 c.next, .bool c.win.any, .int .u16 c.win.last, .int .u32 c.win.bits, .slice q0 l.length e0] := by
     unfold dgCs
     rw [hd]
     simp only [packDg, ha]
     rfl
    rw [e1]; exact hb76
   ·rw [hdl]
    obtain ⟨qs, a1, a2, a3⟩ := hr59
    refine ⟨qs, a1, hf.owns a2 fun i hi => ?_, fun j m q' hj hq => ⟨(a3 j m q' hj hq).1.keepN hf fun ad e hne hi => ?_, (a3 j m q' hj hq).2⟩⟩
    ·obtain ⟨_, cur, hcur⟩ := own_block a2 hi
     rintro rfl
     rw [hb59] at hcur; cases hcur
    ·have := (a3 j m q' hj hq).2 ad e hne
     omega
 rintro u2 w79 ⟨hdg79, hF79⟩
 refine rd_of (cells_all hdg79.blk rfl) ?_
 -- Encode of the datagram as it is built up
 have enc : ∀ (W : World) (l' : List Msg) (q : Option Addr) (e : Nat), DgAt W w.heap.size D { d with list := l' } q e → Fm none' w W → Msok l' → callV Tryz.prog 27 [.agg (dgCs { d with list := l' } q e).toList.toArray] W fun v w' => ∃ q' e', v = .tuple #[.slice q' (encD { d with list := l' }).1.length e', .int .i64 (encD { d with list := l' }).2] ∧
   w'.ownsRow w.heap.size 5 1 (.slice q' (encD { d with list := l' }).1.length e') (encD { d with list := l' }).1.length ((encD { d with list := l' }).1.map (Value.int .u8)) ∧ Fm none' W w' := by
  intro W l' q e hdg hF hok'
  have hr := (RowMsgs.at (p := q) hdg.rows hF.size).2
  refine (encode10_c (c := e) (hH.keep hF id) (hdok l') hr (Nat.le_refl _) hok').mono ?_
  rintro v w' ⟨q', e', rfl, ho, hf⟩
  exact ⟨q', e', rfl, own_base ho hF.size, hf⟩
 have hdself : ({ d with list := l } : Dg) = d := by rw [← hdl]
 have henc0 := enc w79 l q0 e0 (by rw [hdself]; exact hdg79) hF79 hok
 rw [hdself] at henc0
 refine henc0.mono ?_
 rintro _ w84 ⟨qb, eb, rfl, hob84, hf84⟩
 simp only [vq, eqV, nilV, List.getElem?_toArray, List.getElem?_cons_zero, List.getElem?_cons_succ]
 have hF84 := hF79.trans hf84
 refine br_ndec (fun he => ?_) (fun he => ?_)
 ·have e1 : packC c l now = (([], (encD d).2), c) := by unfold packC; rw [← hd, if_pos he]
  rw [e1]
  exact ⟨none, 0, F, rfl, World.ownsRow_nil _ _ _ _, fun i hi => (by cases hi), ⟨bl, mk, wv, sv, hs, hc.keep hF84 fun _ _ _ _ _ _ => id, hS.keep hF84 fun _ _ _ _ _ _ => id, hmk⟩, fun i hi => .inl hi, hF84.none⟩
 have he0 : (encD d).2 = 0 := he
 have hc84 : Core w84 F A bl mk c wv sv := hc.keep hF84 fun _ _ _ _ _ _ => id
 have kN : w84.cell? ⟨A, 0, none⟩ = some (.int .u16 c.next) := cellOf hc84.box rfl
 refine rd_of kN ?_
 simp only [vq, eqV, nilV]
 refine allocC_of fun w96 hb96 hs96 hf96 => ?_
 obtain ⟨X, hX⟩ : ∃ X, X = w84.heap.size := ⟨_, rfl⟩
 rw [← hX] at hb96 ⊢
 have hXw : w.heap.size ≤ X := by rw [hX]; exact hF84.size
 refine stC_all hb96 rfl (fun v hv => by simp at hv; rcases hv with rfl | rfl | rfl <;> rfl) fun w97 hb97 hf97 => ?_
 have hf97' : Fm none' w84 w97 := hf96.trans' hf97 fun i hi e => by omega
 have hF97 : Fm none' w w97 := hF84.trans hf97'
 have hc97 : Core w97 F A bl mk c wv sv := hc.keep hF97 fun _ _ _ _ _ _ => id
 obtain ⟨ms, hms⟩ : ∃ ms, ms = c.wait.map (·.2) := ⟨_, rfl⟩
 have hml : ms.length = c.wait.length := by rw [hms, List.length_map]
 obtain ⟨ids, hids⟩ : ∃ ids, ids = c.wait.map (·.1) := ⟨_, rfl⟩
 have hil : ids.length = c.wait.length := by rw [hids, List.length_map]
 have hmany := hc.many
 have hidlt : ∀ i ∈ ids, i < c.pushed := fun i hi => by
  rw [hids] at hi
  obtain ⟨x, hx, rfl⟩ := List.mem_map.1 hi
  exact (hc.msgs x hx).1
 have hokj : ∀ j, Msok (l ++ ms.take j) := fun j => ⟨fun m hm => by
   rcases List.mem_append.1 hm with hm | hm
   ·exact hok.ok m hm
   ·rw [hms] at hm
    obtain ⟨x, hx, rfl⟩ := List.mem_map.1 (List.mem_of_mem_take hm)
    exact (hc.msgs x hx).2.1.ok, fun m hm => by
   rcases List.mem_append.1 hm with hm | hm
   ·exact hok.len m hm
   ·rw [hms] at hm
    obtain ⟨x, hx, rfl⟩ := List.mem_map.1 (List.mem_of_mem_take hm)
    have := (hc.msgs x hx).2.1.len
    omega, by rw [List.length_append, List.length_take]; omega⟩
 obtain ⟨pw, cw, hwv⟩ := hc.wvSl
 -- what holds when j messages have found room
 let J : Nat → World → Value → Prop := fun j W vb => ∃ qb eb hv, vb = .slice qb (encD { d with list := l ++ ms.take j }).1.length eb ∧ (encD { d with list := l ++ ms.take j }).2 = 0 ∧
  W.ownsRow w.heap.size 5 1 (.slice qb (encD { d with list := l ++ ms.take j }).1.length eb) (encD { d with list := l ++ ms.take j }).1.length ((encD { d with list := l ++ ms.take j }).1.map (Value.int .u8)) ∧
  W.heap[X]? = some (.cells #[.int .u16 c.next, .int .u32 now, hv] 101 (0, 0)) ∧ W.ownsRow w.heap.size 75 1 hv j (ptrs bl (ids.take j)) ∧ Fm none' w W
 refine ⟨fun u W => J (fitN d ms) W (u 9), ?_, ?_⟩
 ·have k1 : w97.cell? ⟨A, 1, none⟩ = some (.slice pw c.wait.length cw) := by rw [← hwv]; exact cellOf hc97.box rfl
  simp only [addr_add, Nat.zero_add, k1, vq, eqV, nilV]
  refine ⟨fun u W => ∃ (j : Nat) (q : Option Addr) (e : Nat), j ≤ ms.length ∧ u 57 = .int .i64 j ∧ J j W (u 9) ∧ DgAt W w.heap.size D { d with list := l ++ ms.take j } q e ∧ fitN d ms = j + fitN { d with list := d.list ++ ms.take j } (ms.drop j), fun u _ => ms.length - (intOf (u 57)).toNat, ?_, ?_⟩
  ·refine ⟨0, q0, e0, by omega, rfl, ⟨qb, eb, .slice none 0 0, ?_, ?_, ?_, hb97, World.ownsRow_nil _ _ _ _, hF97⟩, ?_, ?_⟩
   ·simp only [List.take_zero, List.append_nil, hdself]; rfl
   ·simp only [List.take_zero, List.append_nil, hdself]; exact he0
   ·simp only [List.take_zero, List.append_nil, hdself]; exact hf97'.owns hob84 fun _ _ => id
   ·simp only [List.take_zero, List.append_nil, hdself]; exact (hdg79.keep hf84).keep hf97'
   ·simp
  rintro u w111 ⟨j, q, e, hj, h57, hJ, hdg, hfit⟩
  change u 57 = _ at h57
  obtain ⟨qj, ej, hv, h9, hej, hoj, hbX, hoh, hFj⟩ := id hJ
  change u 9 = _ at h9
  simp only [h57, vq, eqV, nilV]
  refine br_dec (fun hlt => ?_) (fun hge => ?_)
  ·obtain ⟨x, hx⟩ : ∃ x, c.wait[j]? = some x := ⟨c.wait[j]'(by omega), by simp⟩
   have hmj : ms[j]? = some x.2 := by rw [hms, List.getElem?_map, hx]; rfl
   have hij : ids[j]? = some x.1 := by rw [hids, List.getElem?_map, hx]; rfl
   have hc111 : Core w111 F A bl mk c wv sv := hc.keep hFj fun _ _ _ _ _ _ => id
   obtain ⟨g, hg, hgF, hcell⟩ : ∃ g, pw = some ⟨g, 0, none⟩ ∧ F g ∧ w111.cell? ⟨g, j, none⟩ = some (.pointer (some ⟨bl x.1, 0, none⟩)) := by
    have ho := hc111.own
    rw [ptrs_map, hwv] at ho
    have hne : c.wait ≠ [] := by intro h; rw [h] at hx; simp at hx
    obtain ⟨g, cap, C, e', -, hrow, -⟩ := own_rowIn (enc := ptr1 fun x : Nat × Msg => adOf bl x.1) (k := 1) (fun _ => rfl) ho hne
    cases e'
    exact ⟨g, rfl, hc.fw g (by rw [hwv]; rfl), hrow.cell1 (Nat.zero_le _) (by omega) hx⟩
   rw [hg]
   simp only [addr_add, Nat.zero_add, Int.toNat_natCast, Nat.mul_one, hcell, vq, eqV, nilV]
   refine ⟨by omega, ?_⟩
   obtain ⟨L, hL⟩ : ∃ L, L = l ++ ms.take j := ⟨_, rfl⟩
   have hLl : L.length = l.length + j := by rw [hL, List.length_append, List.length_take]; omega
   have hLn : L ++ [x.2] = l ++ ms.take (j + 1) := by rw [hL, List.take_add_one, hmj, List.append_assoc]; rfl
   rw [← hL] at hdg
   obtain ⟨hbD, hrD⟩ := hdg
   obtain ⟨qs, hql, hro, hrq⟩ := hrD
   change qs.length = L.length at hql
   obtain ⟨rv, hrv⟩ : ∃ rv, rv = Value.slice q L.length e := ⟨_, rfl⟩
   change w111.ownsRow w.heap.size 41 23 (.slice q L.length e) L.length ((L.zip qs).flatMap fun x => msgC x.1 x.2.1 x.2.2) at hro
   have hbD' : w111.heap[D]? = some (.cells #[.int .u16 d.seq, .bool d.any, .int .u16 d.last, .int .u32 d.bits, .slice q L.length e] 96 (0, 0)) := hbD
   rw [← hrv] at hro
   have hrvb : ∀ i, rv.ownBlock = some i → w.heap.size ≤ i ∧ ∃ C, w111.heap[i]? = some (.cells C 41 (0, 0)) := fun i hi => own_block hro hi
   have rvD : ¬ rv.ownBlock = some D := fun h => by
    obtain ⟨_, C, hC⟩ := hrvb D h
    rw [hbD'] at hC; cases hC
   obtain ⟨hxl, hxok, qx, cqx, hbx, hbo⟩ := hc111.msgs x (List.mem_of_getElem? hx)
   have hblx : bl x.1 < w.heap.size := hB _ (hc.ids _ hxl).1
   have rvx : ¬ rv.ownBlock = some (bl x.1) := fun h => by have := (hrvb _ h).1; omega
   have kD : w111.drew.cell? ⟨D, 4, none⟩ = some (.slice q L.length e) := cellOf (w := w111.drew) hbD' rfl
   have kx : cellsAt w111.drew ⟨bl x.1, 0, none⟩ 23 = some (msgC x.2 qx cqx) := cells_row (w := w111.drew) (i := 0) (n := 23) hbx (by show 23 ≤ 24; omega)
   refine ⟨fun w' => Fm (fun i => rv.ownBlock = some i) w111.drew w', Fm.refl _ _, ?_⟩
   refine rd_of kD ⟨fun w' hf => rd_of (hf.cell kD rvD) rfl, ?_⟩
   simp only [vq, eqV, nilV]
   refine rd_of kx ⟨fun w' hf => rd_of (hf.cells rvx kx) rfl, ?_⟩
   refine build_Sg (by rw [row45]) row41 rfl (by omega) (by omega) rfl fun w142 hb142 hs142 hf142 => ?_
   simp only [vq, eqV, nilV]
   refine ⟨hf142.none, ?_⟩
   have hro142 : w142.ownsRow w.heap.size 41 23 (.slice q L.length e) L.length ((L.zip qs).flatMap fun x => msgC x.1 x.2.1 x.2.2) := by
    rw [← hrv]
    exact hf142.owns (w := w111.drew) hro fun _ _ => id
   have hsz111 := hFj.size
   have hsz142 : w111.heap.size ≤ w142.heap.size := hf142.size
   refine append_rS (m := 1) (ys := msgC x.2 qx cqx) (by rw [row45]) row41 rfl (by omega) hro142 rfl msgC_one (fun k y hy => ?_) (by omega) (by simp only [maxLen]; omega) (by omega) fun p' c' w147 ho147 hf147 hblk147 => ?_
   ·exact ⟨_, _, rfl, by rw [Nat.zero_add]; exact cellOf hb142 (by simpa using hy)⟩
   simp only [vq, eqV, nilV]
   rw [← hrv] at hf147
   have hf147' : Fm (fun i => rv.ownBlock = some i) w111.drew w147 := hf142.none.trans hf147
   refine ⟨hf147', ?_⟩
   have hbD147 := hf147'.keep (w := w111.drew) hbD' rvD
   refine stC_one hbD147 (by simp) rfl fun w152 hb152 hf152 => ?_
   have hbD152 : w152.heap[D]? = some (.cells (dgCs { d with list := L ++ [x.2] } p' c') 96 (0, 0)) := by
    have e1 : dgCs { d with list := L ++ [x.2] } p' c' = #[.int .u16 d.seq, .bool d.any, .int .u16 d.last, .int .u32 d.bits, .slice p' (L.length + 1) c'] := by
     unfold dgCs
     simp only [List.length_append, List.length_cons, List.length_nil, Nat.zero_add]
    rw [e1]; exact hb152
   refine rd_of (cells_all hbD152 rfl) ?_
   have hfD : Fm (fun i => rv.ownBlock = some i ∨ i = D) w111 w152 := ((Fm.drew w111).none.trans (hf147'.mono fun i _ h => .inl h)).trans (hf152.mono fun i _ h => .inr h)
   have hF152 : Fm none' w w152 := hFj.trans' hfD fun i hi h => by
    rcases h with h | h
    ·have := (hrvb i h).1; omega
    ·omega
   have hpn : (Value.slice p' (L.length + 1) c').ownBlock ≠ some D := fun h => by
    obtain ⟨_, cur, hcur⟩ := own_block ho147 h
    rw [hbD147] at hcur; cases hcur
   have hdg152 : DgAt w152 w.heap.size D { d with list := L ++ [x.2] } p' c' := by
    refine ⟨hbD152, ?_⟩
    have hlen1 : (L ++ [x.2]).length = L.length + 1 := by simp
    show RowMsgs w152 w.heap.size w.heap.size (.slice p' (L ++ [x.2]).length c') (L ++ [x.2])
    rw [hlen1]
    refine ⟨qs ++ [(qx, cqx)], by simp [hql], ?_, ?_⟩
    ·have e1 : ((L ++ [x.2]).zip (qs ++ [(qx, cqx)])).flatMap (fun x => msgC x.1 x.2.1 x.2.2) = (L.zip qs).flatMap (fun x => msgC x.1 x.2.1 x.2.2) ++ msgC x.2 qx cqx := by
      rw [List.zip_append hql.symm, List.flatMap_append]
      simp
     rw [hlen1, e1]
     refine hf152.owns ho147 fun i hi hiD => ?_
     rw [hiD] at hi
     exact hpn hi
    ·intro k m q' hk hq
     have hkl : k < L.length + 1 := by have := (List.getElem?_eq_some_iff.1 hk).1; rw [hlen1] at this; exact this
     by_cases hkj : k < L.length
     ·rw [List.getElem?_append_left hkj] at hk
      rw [List.getElem?_append_left (by omega)] at hq
      obtain ⟨b1, b2⟩ := hrq k m q' hk hq
      refine ⟨b1.keepN hfD fun ad e1 hne h => ?_, b2⟩
      have := b2 ad e1 hne
      rcases h with h | h
      ·have := (hrvb _ h).1; omega
      ·omega
     ·have hkk : k = L.length := by omega
      subst hkk
      rw [List.getElem?_append_right (by omega)] at hk
      rw [List.getElem?_append_right (by omega), hql] at hq
      simp at hk hq
      subst hk hq
      have hin : ∀ ad, qx = some ad → ad.block < w.heap.size := fun ad e1 => hB _ (hbo.2 ad.block (by rw [e1]; rfl))
      refine ⟨(BytesAt.of_own hbo.1).keep hfD fun ad e1 h => ?_, fun ad e1 _ => hin ad e1⟩
      have := hin ad e1
      rcases h with h | h
      ·have := (hrvb _ h).1; omega
      ·omega
   have hLok : Msok (L ++ [x.2]) := by rw [hLn]; exact hokj _
   refine (enc w152 (L ++ [x.2]) p' c' hdg152 hF152 hLok).mono ?_
   rintro _ w156 ⟨q2, e2, rfl, ho2, hf156⟩
   simp only [vq, eqV, nilV, List.getElem?_toArray, List.getElem?_cons_zero, List.getElem?_cons_succ]
   have hfall : Fm (fun i => rv.ownBlock = some i ∨ i = D) w111 w156 := hfD.trans (hf156.mono fun _ _ h => h.elim)
   have hF156 : Fm none' w w156 := hF152.trans hf156
   have hno : ∀ (i : Nat) (C : Array Value) (t : TypeId), w111.heap[i]? = some (Obj.cells C t (0, 0)) → t ≠ 41 → t ≠ 96 → ¬ (rv.ownBlock = some i ∨ i = D) := by
    rintro i C t hi h1 h2 (h | rfl)
    ·obtain ⟨_, C', hC'⟩ := hrvb i h
     rw [hi] at hC'; cases hC'; exact h1 rfl
    ·rw [hbD'] at hi; cases hi; exact h2 rfl
   have hbX156 := hfall.keep hbX (hno _ _ _ hbX (by decide) (by decide))
   have hoh156 := hfall.owns hoh fun i hi => by
    obtain ⟨_, cur, hcur⟩ := own_block hoh hi
    exact hno i _ _ hcur (by decide) (by decide)
   have hoj156 := hfall.owns hoj fun i hi => by
    obtain ⟨_, cur, hcur⟩ := own_block hoj hi
    exact hno i _ _ hcur (by decide) (by decide)
   have hdL : d.list ++ ms.take j = L := by rw [hdl, hL]
   refine br_ndec (fun hne => ?_) (fun hz => ?_)
   ·have hstop := fitN_stop d ms j hfit x.2 hmj (by rw [hdL]; exact hne)
    rw [hstop]
    exact ⟨qj, ej, hv, h9, hej, hoj156, hbX156, hoh156, hF156⟩
   have hsplit := fitN_split d ms j hfit x.2 hmj (by rw [hdL]; exact hz)
   obtain ⟨ph, ch, rfl, -⟩ := own_read hoh156
   have kX : w156.cell? ⟨X, 2, none⟩ = some (.slice ph j ch) := cellOf hbX156 rfl
   simp only [kX, vq, eqV, nilV]
   refine append_1g (by rw [row65]) row75 rfl rfl hoh156 hF156.size (by simp only [maxLen]; omega) (by omega) fun p3 c3 w175 ho175 hf175 hblk175 => ?_
   simp only [vq, eqV, nilV]
   have hphb : ∀ i, (Value.slice ph j ch).ownBlock = some i → w.heap.size ≤ i ∧ ∃ C, w156.heap[i]? = some (.cells C 75 (0, 0)) := fun i hi => own_block hoh156 hi
   have hbX175 := hf175.keep hbX156 fun h => by
    obtain ⟨_, C, hC⟩ := hphb X h
    rw [hbX156] at hC; cases hC
   refine stC_one hbX175 (by simp) rfl fun w187 hb187 hf187 => ?_
   have hfl : Fm (fun i => (Value.slice ph j ch).ownBlock = some i ∨ i = X) w156 w187 := (hf175.mono fun i _ h => .inl h).trans (hf187.mono fun i _ h => .inr h)
   have hno2 : ∀ (i : Nat) (C : Array Value) (t : TypeId), w156.heap[i]? = some (Obj.cells C t (0, 0)) → t ≠ 75 → t ≠ 101 → ¬ ((Value.slice ph j ch).ownBlock = some i ∨ i = X) := by
    rintro i C t hi h1 h2 (h | rfl)
    ·obtain ⟨_, C', hC'⟩ := hphb i h
     rw [hi] at hC'; cases hC'; exact h1 rfl
    ·rw [hbX156] at hi; cases hi; exact h2 rfl
   rw [show IntKind.i64.wrap ((j : Int) + 1) = ((j + 1 : Nat) : Int) from (w64 (by omega)).trans (by omega)]
   have hF187 : Fm none' w w187 := hF156.trans' hfl fun i hi h => by
    rcases h with h | h
    ·have := (hphb i h).1; omega
    ·omega
   refine ⟨⟨j + 1, p', c', by omega, rfl, ⟨q2, e2, .slice p3 (j + 1) c3, ?_, ?_, ?_, hb187, ?_, hF187⟩, ?_, hsplit⟩, ?_⟩
   ·rw [← hLn]; rfl
   ·rw [← hLn]; exact hz
   ·rw [← hLn]
    refine hfl.owns ho2 fun i hi => ?_
    obtain ⟨_, cur, hcur⟩ := own_block ho2 hi
    exact hno2 i _ _ hcur (by decide) (by decide)
   ·have e1 : ptrs bl (ids.take (j + 1)) = ptrs bl (ids.take j) ++ [.pointer (some ⟨bl x.1, 0, none⟩)] := by
     rw [List.take_add_one, hij]
     unfold ptrs
     rw [List.flatMap_append]
     rfl
    rw [e1]
    refine hf187.owns ho175 fun i hi hiX => ?_
    obtain ⟨_, cur, hcur⟩ := own_block ho175 hi
    rw [hiX, hbX175] at hcur; cases hcur
   ·rw [← hLn]
    have hdg156 := hdg152.keep hf156
    refine ⟨hfl.keep hdg156.blk (hno2 _ _ _ hdg156.blk (by decide) (by decide)), ?_⟩
    obtain ⟨qs', r1, r2, r3⟩ := hdg156.rows
    refine ⟨qs', r1, hfl.owns r2 fun i hi => ?_, fun k m q' hk hq => ⟨(r3 k m q' hk hq).1.keepN hfl fun ad e1 hne h => ?_, (r3 k m q' hk hq).2⟩⟩
    ·obtain ⟨_, cur, hcur⟩ := own_block r2 hi
     exact hno2 i _ _ hcur (by decide) (by decide)
    ·have := (r3 k m q' hk hq).2 ad e1 hne
     rcases h with h | h
     ·have := (hphb _ h).1; omega
     ·omega
   ·show ms.length - ((j + 1 : Nat) : Int).toNat < ms.length - (j : Int).toNat
    omega
  ·have hjl : j = ms.length := by omega
   have hd0 : fitN d ms = j := by rw [hfit, hjl, List.drop_length]; rfl
   rw [hd0]
   exact hJ
 rintro u3 w192 ⟨qb2, eb2, hv, h9, hez, hob, hbX, hoh, hF192⟩
 change u3 9 = _ at h9
 obtain ⟨k, hk⟩ : ∃ k, k = fitN d ms := ⟨_, rfl⟩
 rw [← hk] at h9 hez hob hoh
 have hkl : k ≤ ms.length := by rw [hk]; exact fitN_le d ms
 obtain ⟨ys, hys⟩ : ∃ ys, ys = (encD { d with list := l ++ ms.take k }).1 := ⟨_, rfl⟩
 rw [← hys] at h9 hob
 have hpack : packC c l now = ((ys, 0), { c with sent := c.sent ++ [⟨c.next, now, ids.take k⟩], next := (c.next + 1) % 65536 }) := by
  unfold packC
  rw [← hd, if_neg (by simpa using he0), ← hms, ← hids, ← hk, ← hys]
 rw [hpack]
 have hc192 : Core w192.drew F A bl mk c wv sv := hc.keep (hF192.trans (Fm.drew w192)) fun _ _ _ _ _ _ => id
 have hS192 : SentAt w192.drew F bl c.pushed c.sent wv sv hs := hS.keep (hF192.trans (Fm.drew w192)) fun _ _ _ _ _ _ => id
 obtain ⟨ps, cs, hsv, hsvl, -⟩ := own_readS hS192.own
 have hsvb : ∀ i, sv.ownBlock = some i → i < w.heap.size ∧ ∃ C, w192.heap[i]? = some (.cells C 101 (0, 0)) := fun i hi => ⟨hB i (hS.fs i hi), (own_block hS192.own hi).2⟩
 have svA : ¬ sv.ownBlock = some A := fun h => by
  obtain ⟨_, C, hC⟩ := hsvb A h
  have := hc192.box
  unfold BoxA at this
  have h1 : w192.drew.heap[A]? = w192.heap[A]? := rfl
  rw [h1, hC] at this; cases this
 have svX : ¬ sv.ownBlock = some X := fun h => by have := (hsvb X h).1; omega
 have kS : w192.drew.cell? ⟨A, 2, none⟩ = some (.slice ps c.sent.length cs) := by rw [← hsv]; exact cellOf hc192.box rfl
 have kX : cellsAt w192.drew ⟨X, 0, none⟩ 3 = some [.int .u16 c.next, .int .u32 now, hv] := cells_all (w := w192.drew) hbX rfl
 simp only [h9, addr_add, Nat.zero_add]
 refine ⟨fun w' => Fm (fun i => sv.ownBlock = some i) w192.drew w', Fm.refl _ _, ?_⟩
 simp only [vq, eqV, nilV]
 refine rd_of kS ⟨fun w' hf => rd_of (hf.cell kS svA) rfl, ?_⟩
 simp only [vq, eqV, nilV]
 refine rd_of kX ⟨fun w' hf => rd_of (hf.cells svX kX) rfl, ?_⟩
 refine build_Sg (by rw [row66]) row101 rfl (by omega) (by omega) rfl fun w215 hb215 hs215 hf215 => ?_
 simp only [vq, eqV, nilV]
 refine ⟨hf215.none, ?_⟩
 have hown215 : w215.ownsRow 0 101 3 (.slice ps c.sent.length cs) c.sent.length ((c.sent.zip hs).flatMap entC) := by
  rw [← hsv]
  exact hf215.owns hS192.own fun _ _ => id
 have hvone := own_one hoh
 refine append_rS (m := 1) (ys := [.int .u16 c.next, .int .u32 now, hv]) (by rw [row66]) row101 rfl (by omega) hown215 rfl (fun v hv' => ?_) (fun j y hy => ?_) (Nat.zero_le _) (by simp only [maxLen]; omega) (by omega) fun p' c' w220 ho220 hf220 hblk220 => ?_
 ·simp at hv'
  rcases hv' with rfl | rfl | rfl
  ·rfl
  ·rfl
  ·exact hvone
 ·exact ⟨_, _, rfl, by rw [Nat.zero_add]; exact cellOf hb215 (by simpa using hy)⟩
 simp only [vq, eqV, nilV]
 rw [← hsv] at hf220 hblk220
 have hf220' : Fm (fun i => sv.ownBlock = some i) w192.drew w220 := hf215.none.trans hf220
 refine ⟨hf220', ?_⟩
 have hbox220 := hf220'.keep hc192.box svA
 refine stC_one hbox220 (by simp) rfl fun w224 hb224 hf224 => ?_
 refine ⟨fun w' => w' = w224.drew, rfl, ?_⟩
 have k2 : w224.drew.cell? ⟨A, 2, none⟩ = some (.slice p' (c.sent.length + 1) c') := cellOf (w := w224.drew) hb224 rfl
 simp only [k2, forall_eq, vq, eqV, nilV]
 have emax : max 0 (IntKind.i64.wrap (((c.sent.length + 1 : Nat) : Int) - 64)) = ((0 : Nat) : Int) := by
  rw [w64 (by omega)]; omega
 rw [emax]
 obtain ⟨g, hpg, hc1⟩ : ∃ g, p' = some ⟨g, 0, none⟩ ∧ c.sent.length + 1 ≤ c' := by
  rcases ho220.2 with ⟨e, h⟩ | ⟨g, cap, C, e, -, -, h, -⟩
  ·omega
  ·simp only [Value.slice.injEq] at e
   exact ⟨g, e.1, by omega⟩
 refine sliceAt_loS (by rw [row66]) row101 (by omega) (by omega) ?_
 refine ⟨sliceAt_loS (by rw [row66]) row101 (by omega) (by omega) (by first | exact ⟨rfl, rfl⟩ | rfl), ?_⟩
 simp only [vq, eqV, nilV]
 rw [hpg] at hb224 ho220 hblk220 ⊢
 simp only [Option.map_some, addr_add, Nat.zero_add, Int.toNat_natCast, Nat.zero_mul, Nat.sub_zero, ite_self]
 refine stC_one (w := w224.drew) hb224 (by simp) rfl fun w269 hb269 hf269 => ?_
 have kn : w269.cell? ⟨A, 0, none⟩ = some (.int .u16 c.next) := cellOf hb269 rfl
 simp only [kn, vq, eqV, nilV]
 have enx : IntKind.u16.wrap ((c.next : Int) + 1) = (((c.next + 1) % 65536 : Nat) : Int) := w16m (c.next + 1)
 rw [enx]
 refine stC_one hb269 (by simp) rfl fun w272 hb272 hf272 => ?_
 -- what holds in the end
 have hfA : Fm (fun i => i = A) w220 w272 := ((hf224.trans (Fm.drew w224).none).trans hf269).trans hf272
 have hfe : Fm (fun i => sv.ownBlock = some i ∨ i = A) w192 w272 := ((Fm.drew w192).none.trans (hf220'.mono fun i _ h => .inl h)).trans (hfA.mono fun i _ h => .inr h)
 have hbox192 : BoxA w192 A (.int .u16 c.next) wv sv c.win (.int .i64 c.rtt) (.bool c.timed) (.int .u32 c.heard) := hc192.box
 have hno : ∀ (i : Nat) (C : Array Value) (t : TypeId), w192.heap[i]? = some (Obj.cells C t (0, 0)) → t ≠ 101 → t ≠ 70 → ¬ (sv.ownBlock = some i ∨ i = A) := by
  rintro i C t hi h1 h2 (h | rfl)
  ·obtain ⟨_, C', hC'⟩ := hsvb i h
   rw [hi] at hC'; cases hC'; exact h1 rfl
  ·unfold BoxA at hbox192
   rw [hi] at hbox192; cases hbox192; exact h2 rfl
 have hFall : Fm F w w272 := hF192.none.trans (hfe.mono fun i _ h => by
  rcases h with h | h
  ·exact hS.fs i h
  ·exact h ▸ hc.fA)
 have hob272 := hfe.owns hob fun i hi => by
  obtain ⟨_, cur, hcur⟩ := own_block hob hi
  exact hno i _ _ hcur (by decide) (by decide)
 have hoh272 := hfe.owns hoh fun i hi => by
  obtain ⟨_, cur, hcur⟩ := own_block hoh hi
  exact hno i _ _ hcur (by decide) (by decide)
 have hnoA : ∀ (i : Nat) (C : Array Value) (t : TypeId), w220.heap[i]? = some (Obj.cells C t (0, 0)) → t ≠ 70 → ¬ i = A := by
  rintro i C t hi h2 rfl
  rw [hbox220] at hi; cases hi; exact h2 rfl
 have hos272 := hfA.owns ho220 fun i hi => by
  obtain ⟨_, cur, hcur⟩ := own_block ho220 hi
  exact hnoA i _ _ hcur (by decide)
 obtain ⟨F', hF'⟩ : ∃ F' : Nat → Prop, F' = fun i => F i ∨ w.heap.size ≤ i ∧ ∃ C t, w272.heap[i]? = some (.cells C t (0, 0)) ∧ (t = 101 ∨ t = 75) := ⟨_, rfl⟩
 have hsub : ∀ i, F i → F' i := fun i hi => by rw [hF']; exact .inl hi
 have hF'lt : ∀ i, F' i → i < w272.heap.size := fun i hi => by
  rw [hF'] at hi
  rcases hi with hi | ⟨_, C, t, hC, _⟩
  ·exact Nat.lt_of_lt_of_le (hB i hi) hFall.size
  ·exact lt_of_blk hC
 have hcore : Core w272 F A bl mk { c with sent := c.sent ++ [⟨c.next, now, ids.take k⟩], next := (c.next + 1) % 65536 } wv (.slice (some ⟨g, 0, none⟩) (c.sent.length + 1) c') := by
  have h220 : Core w220 F A bl mk c wv sv := hc192.keep hf220' fun i C t hi hF ht h => by
   obtain ⟨_, C', hC'⟩ := hsvb i h
   have h1 : w192.drew.heap[i]? = w192.heap[i]? := rfl
   rw [h1, hC'] at hi; cases hi
   rcases ht with h | ⟨h, _⟩ | h | h <;> cases h
  exact h220.turn hfA rfl rfl hb272 hc.wok (Nat.mod_lt _ (by omega)) hc.heard hc.rtt
 refine ⟨qb2, eb2, F', rfl, hob272, fun i hi hFi => ?_, ⟨bl, mk, wv, _, hs ++ [hv], hcore.up hsub hF'lt, ?_, hmk⟩, fun i hi => ?_, hFall⟩
 ·obtain ⟨h1, cur, hcur⟩ := own_block hob272 hi
  rw [hF'] at hFi
  rcases hFi with h | ⟨_, C, t, hC, ht⟩
  ·have := hB i h; omega
  ·rw [hcur] at hC; cases hC
   rcases ht with h | h <;> cases h
 ·have hlen := hS.len
  have ezip : (c.sent ++ [(⟨c.next, now, ids.take k⟩ : Ent)]).zip (hs ++ [hv]) = c.sent.zip hs ++ [(⟨c.next, now, ids.take k⟩, hv)] := by
   rw [List.zip_append hlen.symm]; rfl
  refine ⟨by simp [hlen], ?_, ?_, ?_, ?_⟩
  ·show w272.ownsRow 0 101 3 _ (c.sent ++ [(⟨c.next, now, ids.take k⟩ : Ent)]).length (((c.sent ++ [(⟨c.next, now, ids.take k⟩ : Ent)]).zip (hs ++ [hv])).flatMap entC)
   rw [ezip, List.flatMap_append, List.length_append]
   exact hos272
  ·intro i hi
   obtain ⟨_, cur, hcur⟩ := own_block hos272 hi
   rw [hF']
   rcases hblk220 with h | h
   ·rw [h] at hi; exact .inl (hS.fs i hi)
   ·rw [h] at hi; cases hi
    exact .inr ⟨by have := hF192.size; have := hf215.size; have h3 : w192.drew.heap.size = w192.heap.size := rfl; omega, _, _, hcur, .inl rfl⟩
  ·intro j e x he hx
   by_cases hj : j < c.sent.length
   ·rw [List.getElem?_append_left hj] at he
    rw [List.getElem?_append_left (by omega)] at hx
    have h1 := hS192.has j e x he hx
    refine (HasAt.keep (S := fun i => sv.ownBlock = some i ∨ i = A) h1 (((hf220'.mono fun i _ h => .inl h)).trans (hfA.mono fun i _ h => .inr h)) fun i C hi hFi hw => ?_).up hsub
    exact hno i C _ hi (by decide) (by decide)
   ·have hjl := (List.getElem?_eq_some_iff.1 he).1
    rw [List.length_append] at hjl
    have hje : j = c.sent.length := by simp at hjl; omega
    subst hje
    rw [List.getElem?_append_right (by omega)] at he
    rw [List.getElem?_append_right (by omega), hlen] at hx
    simp at he hx
    subst he hx
    have hkk : (ids.take k).length = k := by rw [List.length_take]; omega
    refine ⟨?_, fun i hi => ?_, fun i hi => hidlt i (List.mem_of_mem_take hi)⟩
    ·show w272.ownsRow 0 75 1 hv (ids.take k).length (ptrs bl (ids.take k))
     rw [hkk]
     exact own_base hoh272 (Nat.zero_le _)
    ·obtain ⟨h1, cur, hcur⟩ := own_block hoh272 hi
     refine ⟨by rw [hF']; exact .inr ⟨h1, _, _, hcur, .inr rfl⟩, fun hw => ?_⟩
     have := hB i (hc.fw i hw)
     omega
  ·intro e he
   rcases List.mem_append.1 he with he | he
   ·exact hS.rng e he
   ·obtain rfl : e = ⟨c.next, now, ids.take k⟩ := by simpa using he
    exact ⟨hc.next, hnow⟩
 ·rw [hF'] at hi
  rcases hi with h | ⟨h, _⟩
  ·exact .inl h
  ·exact .inr h
end
end Go.Proofs.YtipikchkbmgloaaGreatDoor
namespace Go.Proofs.YtipikchkbmgloaaGreatDoor
set_option linter.unusedSimpArgs false
set_option linter.unusedVariables false
open Go VC
theorem vc4 (w : World) (R : Value → World → Prop)
 (h : callV Tryz.prog (5 : Nat) [] w fun v0 w1 => isP v0 fun o2 => callV Tryz.prog (5 : Nat) [] w1 fun v3 w4 => isP v3 fun o5 => br (Option.isNone o2) (R (Value.bool false) w4) (br (Option.isNone o5) (R (Value.bool false) w4) (callV Tryz.prog (7 : Nat) [Value.pointer o2, Value.agg #[Value.int IntKind.i64 (7 : Int), Value.int IntKind.u16 (0 : Int), Value.int IntKind.u16 (0 : Int), Value.int IntKind.u8 (0 : Int), Value.int IntKind.i8 (0 : Int), Value.int IntKind.i8 (0 : Int), Value.int IntKind.i64 (0 : Int), Value.int IntKind.u16 (3 : Int), Value.int IntKind.i64 (9 : Int), Value.int IntKind.i64 (0 : Int), Value.int IntKind.i64 (0 : Int), Value.int IntKind.i64 (0 : Int), Value.int IntKind.i64 (0 : Int), Value.int IntKind.i64 (0 : Int), Value.int IntKind.i64 (0 : Int), Value.int IntKind.i64 (0 : Int), Value.int IntKind.i64 (0 : Int), Value.int IntKind.i64 (0 : Int), Value.int IntKind.i64 (0 : Int), Value.int IntKind.i64 (0 : Int), Value.int IntKind.u32 (0 : Int), Value.int IntKind.u32 (0 : Int), Value.slice none (0 : Nat) (0 : Nat)]] w4 fun v6 w7 => isK IntKind.i64 v6 fun i8 => callV Tryz.prog (10 : Nat) [Value.pointer o2, Value.slice none (0 : Nat) (0 : Nat), Value.int IntKind.u32 (5 : Int)] w7 fun v9 w10 => isTup v9 fun l11 => rd l11[(0 : Nat)]? fun v12 => isSl v12 fun o13 n14 n15 => isTup v9 fun l16 => rd l16[(1 : Nat)]? fun v17 => isK IntKind.i64 v17 fun i18 => callV Tryz.prog (12 : Nat) [Value.pointer o5, Value.slice o13 n14 n15, Value.int IntKind.u32 (7 : Int)] w10 fun v19 w20 => isTup v19 fun l21 => rd l21[(0 : Nat)]? fun v22 => isSl v22 fun o23 n24 n25 => isTup v19 fun l26 => rd l26[(1 : Nat)]? fun v27 => isK IntKind.i64 v27 fun i28 => callV Tryz.prog (12 : Nat) [Value.pointer o5, Value.slice o13 n14 n15, Value.int IntKind.u32 (8 : Int)] w20 fun v29 w30 => isTup v29 fun l31 => rd l31[(0 : Nat)]? fun v32 => isSl v32 fun o33 n34 n35 => isTup v29 fun l36 => rd l36[(1 : Nat)]? fun v37 => isK IntKind.i64 v37 fun i38 => runs Tryz.prog (Instr.buildSlice (45 : Nat) (1 : Nat) #[((0 : Nat), Value.agg #[Value.int IntKind.i64 (1 : Int), Value.int IntKind.u16 (0 : Int), Value.int IntKind.u16 (0 : Int), Value.int IntKind.u8 (0 : Int), Value.int IntKind.i8 (0 : Int), Value.int IntKind.i8 (0 : Int), Value.int IntKind.i64 (0 : Int), Value.int IntKind.u16 (0 : Int), Value.int IntKind.i64 (0 : Int), Value.int IntKind.i64 (0 : Int), Value.int IntKind.i64 (0 : Int), Value.int IntKind.i64 (0 : Int), Value.int IntKind.i64 (0 : Int), Value.int IntKind.i64 (0 : Int), Value.int IntKind.i64 (0 : Int), Value.int IntKind.i64 (0 : Int), Value.int IntKind.i64 (0 : Int), Value.int IntKind.i64 (0 : Int), Value.int IntKind.i64 (0 : Int), Value.int IntKind.i64 (0 : Int), Value.int IntKind.u32 (0 : Int), Value.int IntKind.u32 (0 : Int), Value.slice none (0 : Nat) (0 : Nat)])]) w30 fun v39 w40 => isSl v39 fun o41 n42 n43 => callV Tryz.prog (10 : Nat) [Value.pointer o5, Value.slice o41 n42 n43, Value.int IntKind.u32 (9 : Int)] w40 fun v44 w45 => isTup v44 fun l46 => rd l46[(0 : Nat)]? fun v47 => isSl v47 fun o48 n49 n50 => isTup v44 fun l51 => rd l51[(1 : Nat)]? fun v52 => isK IntKind.i64 v52 fun i53 => callV Tryz.prog (12 : Nat) [Value.pointer o2, Value.slice o48 n49 n50, Value.int IntKind.u32 (11 : Int)] w45 fun v54 w55 => isTup v54 fun l56 => rd l56[(0 : Nat)]? fun v57 => isSl v57 fun o58 n59 n60 => isTup v54 fun l61 => rd l61[(1 : Nat)]? fun v62 => isK IntKind.i64 v62 fun i63 => br (decide (i8 = (0 : Int))) (br (decide (i18 = (0 : Int))) (br (decide (i28 = (0 : Int))) (br (decide ((↑n24 : Int) = (1 : Int))) (rd o23 fun a64 => ((0 : Int) ≤ (0 : Int) ∧ (0 : Int) < (↑n24 : Int)) ∧ rd (World.cell? w55 (Addr.add a64 (8 : Nat))) fun v65 => isK IntKind.i64 v65 fun i66 => br (decide (i66 = (9 : Int))) (br (decide (i38 = (7 : Int))) (br (decide (i53 = (0 : Int))) (br (decide (i63 = (0 : Int))) (br (decide ((↑n59 : Int) = (1 : Int))) (callV Tryz.prog (16 : Nat) [Value.pointer o2] w55 fun v67 w68 => isK IntKind.i64 v67 fun i69 => br (decide (i69 = (0 : Int))) (callV Tryz.prog (17 : Nat) [Value.pointer o2] w68 fun v70 w71 => isK IntKind.i64 v70 fun i72 => R (Value.bool (decide (i72 = (6 : Int)))) w71) (R (Value.bool false) w68)) (R (Value.bool false) w55)) (R (Value.bool false) w55)) (R (Value.bool false) w55)) (R (Value.bool false) w55)) (R (Value.bool false) w55)) (R (Value.bool false) w55)) (R (Value.bool false) w55)) (R (Value.bool false) w55)) (R (Value.bool false) w55)))) :
 callV Tryz.prog 4 [] w R :=
 vc_of hm noHints Tryz.func4 ent4 (by kernel_rfl) h
end Go.Proofs.YtipikchkbmgloaaGreatDoor
namespace Go.Proofs.YtipikchkbmgloaaGreatDoor
set_option linter.unusedSimpArgs false
set_option linter.unusedVariables false
open Go Go.RowKit VC
variable {w : World}
theorem ChAt.keep {w' : World} {F S : Nat → Prop} {A : Nat} {c : Ch} (h : ChAt w F A c) (f : Fm S w w') (hS : ∀ i, F i → ¬ S i) : ChAt w' F A c := by
 obtain ⟨bl, mk, wv, sv, hs, h1, h2, h3⟩ := h
 exact ⟨bl, mk, wv, sv, hs, h1.keep f fun i _ _ _ hi _ => hS i hi, h2.keep f fun i _ _ _ hi _ => hS i hi, h3⟩
theorem ChAt.lt {F : Nat → Prop} {A : Nat} {c : Ch} (h : ChAt w F A c) : ∀ i, F i → i < w.heap.size := by
 obtain ⟨bl, mk, wv, sv, hs, h1, h2, h3⟩ := h
 exact h1.lt
structure Duo (w0 w : World) (FA FB : Nat → Prop) (A B : Nat) (a b : Ch) : Prop where
 a : ChAt w FA A a
 b : ChAt w FB B b
 dis : ∀ i, FA i → ¬ FB i
 hiA : ∀ i, FA i → w0.heap.size ≤ i
 hiB : ∀ i, FB i → w0.heap.size ≤ i
 fm : Fm none' w0 w
theorem Duo.swap {w0 : World} {FA FB : Nat → Prop} {A B : Nat} {a b : Ch} (h : Duo w0 w FA FB A B a b) : Duo w0 w FB FA B A b a := ⟨h.b, h.a, fun i hb ha => h.dis i ha hb, h.hiB, h.hiA, h.fm⟩
theorem Duo.keep {w0 w' : World} {FA FB : Nat → Prop} {A B : Nat} {a b : Ch} (h : Duo w0 w FA FB A B a b) (f : Fm none' w w') : Duo w0 w' FA FB A B a b := ⟨h.a.keep f fun _ _ => id, h.b.keep f fun _ _ => id, h.dis, h.hiA, h.hiB, h.fm.trans f⟩
theorem Duo.step {w0 w' : World} {FA FB F' : Nat → Prop} {A B : Nat} {a b a' : Ch} (h : Duo w0 w FA FB A B a b) (ha : ChAt w' F' A a') (hF : ∀ i, F' i → FA i ∨ w.heap.size ≤ i) (f : Fm FA w w') : Duo w0 w' F' FB A B a' b := by
 refine ⟨ha, h.b.keep f fun i hb ha => h.dis i ha hb, fun i hi hb => ?_, fun i hi => ?_, h.hiB, h.fm.trans' f fun i hi ha => by have := h.hiA i ha; omega⟩
 ·rcases hF i hi with h1 | h1
  ·exact h.dis i h1 hb
  ·have := h.b.lt i hb; omega
 ·rcases hF i hi with h1 | h1
  ·exact h.hiA i h1
  ·have := h.fm.size; omega
structure Loose (w : World) (FA FB : Nat → Prop) (base : Nat) (q : Option Addr) (e : Nat) (ys : List Int) : Prop where
 own : w.ownsRow base 5 1 (.slice q ys.length e) ys.length (ys.map (Value.int .u8))
 no : ∀ i, (Value.slice q ys.length e).ownBlock = some i → ¬ FA i ∧ ¬ FB i
theorem Loose.bytes {FA FB : Nat → Prop} {base e : Nat} {q : Option Addr} {ys : List Int} (h : Loose w FA FB base q e ys) : BytesAt w q ys := BytesAt.of_own h.own
theorem Loose.cap {FA FB : Nat → Prop} {base e : Nat} {q : Option Addr} {ys : List Int} (h : Loose w FA FB base q e ys) : ys.length ≤ e := own_cap' h.own
theorem Loose.swap {FA FB : Nat → Prop} {base e : Nat} {q : Option Addr} {ys : List Int} (h : Loose w FA FB base q e ys) : Loose w FB FA base q e ys := ⟨h.own, fun i hi => (h.no i hi).symm⟩
theorem Loose.step {w' : World} {FA FB F' : Nat → Prop} {base e : Nat} {q : Option Addr} {ys : List Int} (h : Loose w FA FB base q e ys) (hF : ∀ i, F' i → FA i ∨ w.heap.size ≤ i) (f : Fm FA w w') : Loose w' F' FB base q e ys := by
 refine ⟨f.owns h.own fun i hi => (h.no i hi).1, fun i hi => ⟨fun h' => ?_, (h.no i hi).2⟩⟩
 rcases hF i h' with h1 | h1
 ·exact (h.no i hi).1 h1
 ·obtain ⟨_, cur, hcur⟩ := own_block h.own hi
  have := lt_of_blk hcur; omega
theorem Loose.keep {w' : World} {FA FB : Nat → Prop} {base e : Nat} {q : Option Addr} {ys : List Int} (h : Loose w FA FB base q e ys) (f : Fm none' w w') : Loose w' FA FB base q e ys := ⟨f.owns h.own fun _ _ => id, h.no⟩
section
variable {w0 : World} {FA FB : Nat → Prop} {A B : Nat} {a b : Ch}
theorem duo_push {m : Msg} {p : Option Addr} {cp : Nat} (h : Duo w0 w FA FB A B a b) (hm : Mok m) (hy : BytesAt w p m.bytes) (hp : ∀ ad, p = some ad → m.bytes ≠ [] → ad.block < w.heap.size) (hl : m.bytes.length ≤ 1000000) :
  callV Tryz.prog 7 [.pointer (some ⟨A, 0, none⟩), .agg (msgC m p cp).toArray] w fun v w' => v = .int .i64 (pushC a m).1 ∧ ∃ F', Duo w0 w' F' FB A B (pushC a m).2 b ∧ (∀ i, F' i → FA i ∨ w.heap.size ≤ i) ∧ Fm FA w w' := by
 refine (push19_c h.a hm hy hp hl).mono ?_
 rintro v w' ⟨hv, hc, hf⟩
 have hF : ∀ i, FNew FA w w' i → FA i ∨ w.heap.size ≤ i := fun i hi => hi.imp id (·.1)
 exact ⟨hv, _, h.step hc hF hf, hF, hf⟩
theorem duo_pack {l : List Msg} {p : Option Addr} {cp now N : Nat} (hH : Halves w0) (h : Duo w0 w FA FB A B a b) (hm : MsgsAt w N p l) (hN : N ≤ w.heap.size) (hok : Msok l) (hll : l.length ≤ 900) (hnow : now < 4294967296) (hsl : a.sent.length < 64) :
  callV Tryz.prog 10 [.pointer (some ⟨A, 0, none⟩), .slice p l.length cp, .int .u32 now] w fun v w' => ∃ q e F', v = .tuple #[.slice q (packC a l now).1.1.length e, .int .i64 (packC a l now).1.2] ∧
   Loose w' F' FB w.heap.size q e (packC a l now).1.1 ∧ Duo w0 w' F' FB A B (packC a l now).2 b ∧ (∀ i, F' i → FA i ∨ w.heap.size ≤ i) ∧ Fm FA w w' := by
 refine (pack17_c (hH.keep h.fm id) h.a hm hN hok hll hnow hsl).mono ?_
 rintro v w' ⟨q, e, F', hv, ho, hno, hc, hF, hf⟩
 refine ⟨q, e, F', hv, ⟨ho, fun i hi => ⟨hno i hi, fun hb => ?_⟩⟩, h.step hc hF hf, hF, hf⟩
 have := (own_block ho hi).1
 have := h.b.lt i hb
 omega
theorem duo_unpack {ys : List Int} {p : Option Addr} {cp now : Nat} (hH : Halves w0) (h : Duo w0 w FA FB A B a b) (hb : BytesAt w p ys) (hy : ∀ y ∈ ys, 0 ≤ y ∧ y < 256) (hl : ys.length ≤ 1000000) (hnc : ys.length ≤ cp) (hnow : now < 4294967296)
  (hsl : a.sent.length ≤ 1000000) (hids : ∀ e ∈ a.sent, e.ids.length ≤ 1000000) :
  callV Tryz.prog 12 [.pointer (some ⟨A, 0, none⟩), .slice p ys.length cp, .int .u32 now] w fun v w' => ∃ q e, v = .tuple #[.slice q (unpackC a ys now).1.1.length e, .int .i64 (unpackC a ys now).1.2] ∧
   OwnMsgs w' w.heap.size (.slice q (unpackC a ys now).1.1.length e) (unpackC a ys now).1.1 ∧ Duo w0 w' FA FB A B (unpackC a ys now).2 b ∧ Fm FA w w' := by
 refine (unpack18_c (hH.keep h.fm id) h.a hb hy hl hnc hnow hsl hids).mono ?_
 rintro v w' ⟨q, e, hv, ho, hc, hf⟩
 exact ⟨q, e, hv, ho, h.step hc (fun i hi => .inl hi) hf, hf⟩
theorem duo_waits (h : Duo w0 w FA FB A B a b) : callV Tryz.prog 16 [.pointer (some ⟨A, 0, none⟩)] w fun v w' => v = .int .i64 a.wait.length ∧ w' = w := by
 obtain ⟨bl, mk, wv, sv, hs, h1, h2, h3⟩ := h.a
 exact waits20_c h1
theorem duo_rtt (h : Duo w0 w FA FB A B a b) : callV Tryz.prog 17 [.pointer (some ⟨A, 0, none⟩)] w fun v w' => v = .int .i64 a.rtt ∧ w' = w := by
 obtain ⟨bl, mk, wv, sv, hs, h1, h2, h3⟩ := h.a
 exact rtt21_c h1
theorem duo_new : callV Tryz.prog 5 [] w fun v w1 => ∃ A, v = .pointer (some ⟨A, 0, none⟩) ∧ callV Tryz.prog 5 [] w1 fun v' w' => ∃ FA FB B, v' = .pointer (some ⟨B, 0, none⟩) ∧ Duo w w' FA FB A B newC newC := by
 refine new15_c.mono ?_
 rintro v w1 ⟨rfl, h1, hf1⟩
 refine ⟨_, rfl, new15_c.mono ?_⟩
 rintro v' w2 ⟨rfl, h2, hf2⟩
 refine ⟨_, _, _, rfl, h1.keep hf2 fun _ _ => id, h2, fun i hi hi' => ?_, fun i hi => ?_, fun i hi => ?_, hf1.trans hf2⟩
 ·rcases hi with h | h
  ·exact h
  ·rcases hi' with h' | h'
   ·exact h'
   ·omega
 ·rcases hi with h | h
  ·exact h.elim
  ·exact h.1
 ·rcases hi with h | h
  ·exact h.elim
  ·have := hf1.size; omega
end
def shM : Msg := { blank 7 with prov := 3, id := 9 }
def shH : Msg := blank 1
def shA1 : Ch := (pushC newC shM).2
def shX : List Int := (packC shA1 [] 5).1.1
def shA2 : Ch := (packC shA1 [] 5).2
def shB1 : Ch := (unpackC newC shX 7).2
def shB2 : Ch := (unpackC shB1 shX 8).2
def shY : List Int := (packC shB2 [shH] 9).1.1
def shB3 : Ch := (packC shB2 [shH] 9).2
def shA3 : Ch := (unpackC shA2 shY 11).2
theorem sh1 : (pushC newC shM).1 = 0 := by decide +kernel
theorem sh2 : (packC shA1 [] 5).1.2 = 0 := by decide +kernel
theorem sh3 : (unpackC newC shX 7).1 = ([shM], 0) := by decide +kernel
theorem sh4 : (unpackC shB1 shX 8).1.2 = 7 := by decide +kernel
theorem sh5 : (packC shB2 [shH] 9).1.2 = 0 := by decide +kernel
theorem sh6 : (unpackC shA2 shY 11).1 = ([shH], 0) := by decide +kernel
theorem sh7 : shA3.wait.length = 0 ∧ shA3.rtt = 6 := by decide +kernel
theorem sealB_r {x : List Int} (h : ∀ y ∈ x, 0 ≤ y ∧ y < 256) : ∀ y ∈ sealB x, 0 ≤ y ∧ y < 256 := by
 intro y hy
 rcases List.mem_append.1 hy with hy | hy
 ·exact h y hy
 ·exact beB_r _ _ y hy
theorem encD_r (d : Dg) : (∀ y ∈ (encD d).1, 0 ≤ y ∧ y < 256) ∧ (encD d).1.length ≤ 1024 := by
 unfold encD
 split
 ·exact ⟨by simp, by simp⟩
 split
 ·exact ⟨by simp, by simp⟩
 split
 ·exact ⟨by simp, by simp⟩
 ·rename_i h
  refine ⟨sealB_r fun y hy => ?_, Nat.le_of_not_lt h⟩
  rcases List.mem_append.1 hy with hy | hy
  ·exact headB_r d y hy
  ·exact enc_range _ y hy
theorem packC_r (c : Ch) (l : List Msg) (now : Nat) : (∀ y ∈ (packC c l now).1.1, 0 ≤ y ∧ y < 256) ∧ (packC c l now).1.1.length ≤ 1024 := by
 unfold packC
 split
 ·exact ⟨by simp, by simp⟩
 ·exact encD_r _
theorem mok_sh : Mok shM ∧ Mok shH := by
 refine ⟨⟨?_, ?_, ?_, ?_, ?_, ?_, ?_, ?_, ?_, ?_, ?_, ?_, ?_, ?_, ?_, ?_, ?_, ?_, ?_, ?_, ?_, ?_, ?_⟩, ⟨?_, ?_, ?_, ?_, ?_, ?_, ?_, ?_, ?_, ?_, ?_, ?_, ?_, ?_, ?_, ?_, ?_, ?_, ?_, ?_, ?_, ?_, ?_⟩⟩
 all_goals first | (unfold I64; decide) | decide | (intro y hy; simp [shM, shH, blank] at hy)
theorem msgs_none_b {w : World} : BytesAt w (none : Option Addr) [] := fun j y h => by simp at h
theorem msok_nil : Msok [] := ⟨by simp, by simp, by simp⟩
theorem msgs_nil (w : World) (N : Nat) (p : Option Addr) : MsgsAt w N p [] := fun j m h => by simp at h
set_option maxRecDepth 20000 in
set_option maxHeartbeats 1000000 in
theorem shown8_c (hH : Halves w) : callV Tryz.prog 4 [] w fun v w' => v = .bool true ∧ Fm none' w w' := by
 refine vc4 w _ ?_
 refine (duo_new (w := w)).mono ?_
 rintro _ w1 ⟨A, rfl, hnew⟩
 simp only [vq, eqV, nilV]
 refine hnew.mono ?_
 rintro _ w4 ⟨FA, FB, B, rfl, hD⟩
 simp only [Option.isNone_some, vq, eqV, nilV]
 refine (duo_push (m := shM) (p := none) (cp := 0) hD mok_sh.1 (msgs_none_b) (fun ad e => by cases e) (by decide)).mono ?_
 rintro _ w7 ⟨rfl, F1, hD1, -, -⟩
 rw [sh1]
 simp only [vq, eqV, nilV]
 change Duo w w7 F1 FB A B shA1 newC at hD1
 refine (duo_pack (l := []) (p := none) (cp := 0) (now := 5) (N := w7.heap.size) hH hD1 (msgs_nil _ _ _) (Nat.le_refl _) msok_nil (by simp) (by omega) (by decide +kernel)).mono ?_
 rintro _ w10 ⟨qx, ex, F2, rfl, hx, hD2, -, -⟩
 rw [sh2]
 change Loose w10 F2 FB w7.heap.size qx ex shX at hx
 change Duo w w10 F2 FB A B shA2 newC at hD2
 simp only [vq, eqV, nilV, List.getElem?_toArray, List.getElem?_cons_zero, List.getElem?_cons_succ]
 have hxr := packC_r shA1 [] 5
 change (∀ y ∈ shX, 0 ≤ y ∧ y < 256) ∧ shX.length ≤ 1024 at hxr
 rw [show (packC shA1 [] 5).1.1 = shX from rfl]
 refine (duo_unpack (ys := shX) (cp := ex) (now := 7) hH hD2.swap hx.bytes hxr.1 (by omega) hx.cap (by omega) (by simp [newC]) (by simp [newC])).mono ?_
 rintro _ w20 ⟨q1, e1, rfl, ho1, hD3, hf3⟩
 have hx3 := (hx.swap.step (fun i hi => .inl hi) hf3)
 change Duo w w20 FB F2 B A shB1 shA2 at hD3
 rw [sh3] at ho1 ⊢
 simp only [vq, eqV, nilV, List.getElem?_toArray, List.getElem?_cons_zero, List.getElem?_cons_succ]
 refine (duo_unpack (ys := shX) (cp := ex) (now := 8) hH hD3 hx3.bytes hxr.1 (by omega) hx3.cap (by omega) (by decide +kernel) (by decide +kernel)).mono ?_
 rintro _ w30 ⟨q2, e2, rfl, ho2, hD4, hf4⟩
 change Duo w w30 FB F2 B A shB2 shA2 at hD4
 rw [sh4]
 simp only [vq, eqV, nilV, List.getElem?_toArray, List.getElem?_cons_zero, List.getElem?_cons_succ]
 refine build_Sg (cs := msgC shH none 0) (by rw [row45]) row41 rfl (by omega) (by omega) rfl fun w40 hb40 hs40 hf40 => ?_
 simp only [vq, eqV, nilV]
 have hD5 := hD4.keep hf40
 have hmH : MsgsAt w40 w40.heap.size (some ⟨w30.heap.size, 0, none⟩) [shH] := by
  intro j m hj
  match j, hj with
  | 0, hj =>
   simp at hj; subst hj
   exact ⟨_, none, 0, rfl, by show w30.heap.size < _; omega, by rw [addr_add]; exact cells_all hb40 rfl, (msgs_none_b), fun ad e => by cases e⟩
 refine (duo_pack (l := [shH]) (p := some ⟨w30.heap.size, 0, none⟩) (cp := 1) (now := 9) (N := w40.heap.size) hH hD5 hmH (Nat.le_refl _) ⟨by simp [mok_sh.2], by simp [shH, blank], by simp⟩ (by simp) (by omega) (by decide +kernel)).mono ?_
 rintro _ w45 ⟨qy, ey, F3, rfl, hy, hD6, -, hf6⟩
 rw [sh5]
 change Loose w45 F3 F2 w40.heap.size qy ey shY at hy
 change Duo w w45 F3 F2 B A shB3 shA2 at hD6
 simp only [vq, eqV, nilV, List.getElem?_toArray, List.getElem?_cons_zero, List.getElem?_cons_succ]
 have hyr := packC_r shB2 [shH] 9
 change (∀ y ∈ shY, 0 ≤ y ∧ y < 256) ∧ shY.length ≤ 1024 at hyr
 rw [show (packC shB2 [shH] 9).1.1 = shY from rfl]
 refine (duo_unpack (ys := shY) (cp := ey) (now := 11) hH hD6.swap hy.bytes hyr.1 (by omega) hy.cap (by omega) (by decide +kernel) (by decide +kernel)).mono ?_
 rintro _ w55 ⟨q3, e3, rfl, ho3, hD7, hf7⟩
 change Duo w w55 F2 F3 A B shA3 shB3 at hD7
 rw [sh6]
 simp only [vq, eqV, nilV, List.getElem?_toArray, List.getElem?_cons_zero, List.getElem?_cons_succ]
 have hFB : ∀ i, FB i → i < w10.heap.size := hD2.b.lt
 have hF2 : ∀ i, F2 i → i < w10.heap.size := hD2.a.lt
 have hb0 : w10.heap.size ≤ w20.heap.size := hf3.size
 have hall : Fm (fun i => FB i ∨ F2 i) w20 w55 := (((hf4.mono fun i _ h => .inl h).trans hf40.none).trans (hf6.mono fun i _ h => .inl h)).trans (hf7.mono fun i _ h => .inr h)
 have ho55 := ho1.keep hall fun i C t _ hb _ h => by
  rcases h with h | h
  ·have := hFB i h; omega
  ·have := hF2 i h; omega
 obtain ⟨p1, c1, e1', hat⟩ := ho55.at
 cases e1'
 obtain ⟨ad, qm, cm, rfl, -, hcells, -, -⟩ := hat 0 shM rfl
 have hid : w55.cell? (ad.add 8) = some (.int .i64 9) := by
  have := (cellsAt_length hcells).2 8 (.int .i64 9) rfl
  rw [add_add] at this
  rwa [Nat.zero_mul, Nat.zero_add] at this
 have hfin : Fm none' w w55 := hD7.fm
 simp only [decide_true, List.length_cons, List.length_nil, hid, vq, eqV, nilV]
 refine br_dec (fun _ => ⟨by decide, ?_⟩) (fun h => absurd rfl h)
 refine br_dec (fun _ => ?_) (fun h => absurd rfl h)
 refine (duo_waits hD7).mono ?_
 rintro _ w68 ⟨rfl, rfl⟩
 simp only [vq, eqV, nilV]
 rw [sh7.1]
 refine br_dec (fun _ => ?_) (fun h => absurd rfl h)
 refine (duo_rtt hD7).mono ?_
 rintro _ w71 ⟨rfl, rfl⟩
 simp only [vq, eqV, nilV]
 rw [sh7.2]
 exact ⟨rfl, hfin⟩
end Go.Proofs.YtipikchkbmgloaaGreatDoor
namespace Go.Proofs.YtipikchkbmgloaaGreatDoor
set_option linter.unusedSimpArgs false
set_option linter.unusedVariables false
open Go Go.RowKit VC
end Go.Proofs.YtipikchkbmgloaaGreatDoor
namespace Go.Proofs.YtipikchkbmgloaaGreatDoor
set_option linter.unusedSimpArgs false
set_option linter.unusedVariables false
open Go Go.RowKit VC
end Go.Proofs.YtipikchkbmgloaaGreatDoor
namespace Go.Proofs.YtipikchkbmgloaaGreatDoor
set_option linter.unusedSimpArgs false
set_option linter.unusedVariables false
open Go Go.RowKit VC
end Go.Proofs.YtipikchkbmgloaaGreatDoor
namespace Go.Proofs.YtipikchkbmgloaaGreatDoor
set_option linter.unusedSimpArgs false
set_option linter.unusedVariables false
open Go Go.RowKit VC
theorem bits_new {b d p : Nat} (hp : p < 32) (hd : 1 ≤ d) : (b * 2 ^ d % 4294967296 ||| 2 ^ (d - 1) % 4294967296).testBit p = true ↔ (d ≤ p ∧ b.testBit (p - d) = true) ∨ p = d - 1 := by
 have e : (4294967296 : Nat) = 2 ^ 32 := rfl
 rw [Nat.testBit_or, e, Nat.testBit_mod_two_pow, Nat.testBit_mod_two_pow, Nat.mul_comm, Nat.testBit_two_pow_mul, Nat.testBit_two_pow, decide_eq_true hp]
 simp only [Bool.true_and, Bool.or_eq_true, Bool.and_eq_true, decide_eq_true_eq]
 constructor
 ·rintro (h | h)
  ·exact .inl h
  ·exact .inr h.symm
 ·rintro (h | h)
  ·exact .inl h
  ·exact .inr h.symm
end Go.Proofs.YtipikchkbmgloaaGreatDoor
namespace Go.Proofs.YtipikchkbmgloaaGreatDoor
set_option linter.unusedSimpArgs false
set_option linter.unusedVariables false
open Go Go.RowKit VC
structure RWin where
 some : Bool
 last : Nat
 near : List Nat
def accR (V : RWin) (n : Nat) : Bool × RWin :=
 if V.some = true ∧ distI n V.last ≤ 0 then
  if distI n V.last < -32 ∨ n ∈ V.near then (false, V)
  else (true, ⟨true, V.last, n :: V.near.filter fun x => decide (0 ≤ distI V.last x ∧ distI V.last x ≤ 32)⟩)
 else (true, ⟨true, n, n :: V.near.filter fun x => decide (0 ≤ distI n x ∧ distI n x ≤ 32)⟩)
structure WinEq (W : Win) (V : RWin) : Prop where
 ok : Wok W
 some : V.some = W.any
 last : V.last = W.last
 rng : ∀ x ∈ V.near, x < 65536
 no : W.any = false → V.near = []
 near : W.any = true → ∀ x, x < 65536 → (x ∈ V.near ↔ 0 ≤ distI W.last x ∧ distI W.last x ≤ 32 ∧ (distI W.last x = 0 ∨ W.bits.testBit ((distI W.last x).toNat - 1) = true))
theorem dist_self (a : Nat) : distI a a = 0 := by unfold distI; omega
theorem dist_zero {a b : Nat} (ha : a < 65536) (hb : b < 65536) (h : distI a b = 0) : a = b := by unfold distI at h; omega
theorem dist_neg {a b : Nat} (h : distI a b ≠ -32768) : distI b a = - distI a b := by unfold distI at *; omega
theorem dist_eq {n a b : Nat} (ha : a < 65536) (hb : b < 65536) (h : distI n a = distI n b) : a = b := by unfold distI at h; omega
theorem WinEq.start : WinEq ⟨false, 0, 0⟩ ⟨false, 0, []⟩ := ⟨⟨by show 0 < 65536; omega, by show 0 < 4294967296; omega⟩, rfl, rfl, fun x h => by simp at h, fun _ => rfl, fun h => by cases h⟩
theorem acc_eq {W : Win} {V : RWin} {n : Nat} (h : WinEq W V) (hn : n < 65536) : (accR V n).1 = (accW W n).1 ∧ WinEq (accW W n).2 (accR V n).2 := by
 obtain ⟨hok, hs, hl, hr, hno, hnear⟩ := h
 have hok' := accW_ok (n := n) hok hn
 obtain ⟨any, last, bits⟩ := W
 obtain ⟨some, last', near⟩ := V
 change some = any at hs
 change last' = last at hl
 subst hs hl
 have hlast : last' < 65536 := hok.last
 have hrng : ∀ (P : Nat → Bool), ∀ x ∈ n :: near.filter P, x < 65536 := by
  intro P x hx
  rcases List.mem_cons.1 hx with rfl | hx
  ·exact hn
  ·exact hr x (List.mem_filter.1 hx).1
 cases some with
 | false =>
  have hnil : near = [] := hno rfl
  subst hnil
  have e1 : accW ⟨false, last', bits⟩ n = (true, ⟨true, n, 0⟩) := by unfold accW; rw [if_pos rfl]
  have e2 : accR ⟨false, last', []⟩ n = (true, ⟨true, n, [n]⟩) := by unfold accR; rw [if_neg (by simp)]; rfl
  rw [e1] at hok' ⊢
  rw [e2]
  refine ⟨rfl, hok', rfl, rfl, fun x hx => by rw [List.mem_singleton.1 hx]; exact hn, fun h => (by cases h), fun _ x hx => ?_⟩
  show x ∈ [n] ↔ 0 ≤ distI n x ∧ distI n x ≤ 32 ∧ (distI n x = 0 ∨ Nat.testBit 0 _ = true)
  rw [List.mem_singleton, Nat.zero_testBit]
  constructor
  ·rintro rfl; rw [dist_self]; exact ⟨by omega, by omega, .inl rfl⟩
  ·rintro ⟨-, -, h | h⟩
   ·exact (dist_zero hn hx h).symm
   ·cases h
 | true =>
  have hnear : ∀ x, x < 65536 → (x ∈ near ↔ 0 ≤ distI last' x ∧ distI last' x ≤ 32 ∧ (distI last' x = 0 ∨ bits.testBit ((distI last' x).toNat - 1) = true)) := hnear rfl
  have hbits : bits < 4294967296 := hok.bits
  have hll : last' ∈ near := (hnear last' hlast).2 (by rw [dist_self]; exact ⟨by omega, by omega, .inl rfl⟩)
  by_cases hd : 0 < distI n last'
  ·obtain ⟨d, hdd⟩ : ∃ d : Nat, distI n last' = d := ⟨(distI n last').toNat, by omega⟩
   have e1 : accW ⟨true, last', bits⟩ n = (true, ⟨true, n, (bits * 2 ^ d % 4294967296 ||| 2 ^ (d - 1) % 4294967296)⟩) := by
    unfold accW; rw [if_neg (by simp), if_pos hd, hdd]; rfl
   have e2 : accR ⟨true, last', near⟩ n = (true, ⟨true, n, n :: near.filter fun x => decide (0 ≤ distI n x ∧ distI n x ≤ 32)⟩) := by
    unfold accR; rw [if_neg]; intro h; have : distI n last' ≤ 0 := h.2; omega
   rw [e1] at hok' ⊢
   rw [e2]
   refine ⟨rfl, hok', rfl, rfl, hrng _, fun h => (by cases h), fun _ x hx => ?_⟩
   show x ∈ n :: near.filter _ ↔ 0 ≤ distI n x ∧ distI n x ≤ 32 ∧ (distI n x = 0 ∨ (bits * 2 ^ d % 4294967296 ||| 2 ^ (d - 1) % 4294967296).testBit ((distI n x).toNat - 1) = true)
   rw [List.mem_cons, List.mem_filter, decide_eq_true_eq]
   constructor
   ·rintro (rfl | ⟨hxn, h1, h2⟩)
    ·rw [dist_self]; exact ⟨by omega, by omega, .inl rfl⟩
    ·refine ⟨h1, h2, ?_⟩
     obtain ⟨g1, g2, g3⟩ := (hnear x hx).1 hxn
     have hsum : distI n x = d + distI last' x := by
      unfold distI at *; omega
     rw [bits_new (by omega) (by omega)]
     rcases g3 with g3 | g3
     ·exact .inr (.inr (by omega))
     ·by_cases h0 : distI last' x = 0
      ·exact .inr (.inr (by omega))
      ·refine .inr (.inl ⟨by omega, ?_⟩)
       rw [show (distI n x).toNat - 1 - d = (distI last' x).toNat - 1 by omega]
       exact g3
   ·rintro ⟨h1, h2, h3⟩
    by_cases h0 : distI n x = 0
    ·exact .inl (dist_zero hn hx h0).symm
    ·rcases h3 with h3 | h3
     ·exact absurd h3 h0
     ·rw [bits_new (by omega) (by omega)] at h3
      refine .inr ⟨(hnear x hx).2 ?_, h1, h2⟩
      rcases h3 with ⟨h4, h5⟩ | h4
      ·have hsum : distI last' x = distI n x - d := by unfold distI at *; omega
       refine ⟨by omega, by omega, .inr ?_⟩
       rw [show (distI last' x).toNat - 1 = (distI n x).toNat - 1 - d by omega]
       exact h5
      ·have hsum : distI last' x = 0 := by unfold distI at *; omega
       rw [hsum]
       exact ⟨by omega, by omega, .inl rfl⟩
  ·have hmem : (distI n last' < -32 ∨ n ∈ near) ↔ (distI n last' = 0 ∨ distI n last' < -32 ∨ bits.testBit ((-distI n last').toNat - 1) = true) := by
    by_cases hf : distI n last' < -32
    ·simp [hf]
    ·have hng : distI last' n = - distI n last' := dist_neg (by omega)
     rw [hnear n hn, hng]
     constructor
     ·rintro (h | ⟨-, -, h | h⟩)
      ·exact absurd h hf
      ·exact .inl (by omega)
      ·exact .inr (.inr h)
     ·rintro (h | h | h)
      ·exact .inr ⟨by omega, by omega, .inl (by omega)⟩
      ·exact absurd h hf
      ·exact .inr ⟨by omega, by omega, .inr h⟩
   by_cases hbad : distI n last' < -32 ∨ n ∈ near
   ·have e1 : accW ⟨true, last', bits⟩ n = (false, ⟨true, last', bits⟩) := by
     unfold accW; rw [if_neg (by simp), if_neg hd, if_pos (hmem.1 hbad)]
    have e2 : accR ⟨true, last', near⟩ n = (false, ⟨true, last', near⟩) := by
     unfold accR; rw [if_pos ⟨rfl, by show distI n last' ≤ 0; omega⟩, if_pos hbad]
    rw [e1, e2]
    exact ⟨rfl, hok, rfl, rfl, hr, fun h => (by cases h), fun _ => hnear⟩
   ·have hng : distI last' n = - distI n last' := dist_neg (by have := hbad; omega)
    obtain ⟨d, hdd⟩ : ∃ d : Nat, distI last' n = d := ⟨(distI last' n).toNat, by omega⟩
    have hd0 : d ≠ 0 := by
     intro h
     exact hbad ((hmem).2 (.inl (by omega)))
    have e1 : accW ⟨true, last', bits⟩ n = (true, ⟨true, last', bits ||| 2 ^ (d - 1)⟩) := by
     unfold accW; rw [if_neg (by simp), if_neg hd, if_neg (fun h => hbad (hmem.2 h))]
     show (true, (⟨true, last', bits ||| 2 ^ ((-distI n last').toNat - 1)⟩ : Win)) = _
     rw [show (-distI n last').toNat = d by omega]
    have e2 : accR ⟨true, last', near⟩ n = (true, ⟨true, last', n :: near.filter fun x => decide (0 ≤ distI last' x ∧ distI last' x ≤ 32)⟩) := by
     unfold accR; rw [if_pos ⟨rfl, by show distI n last' ≤ 0; omega⟩, if_neg hbad]
    rw [e1] at hok' ⊢
    rw [e2]
    have hfar : ¬ distI n last' < -32 := fun h => hbad (.inl h)
    refine ⟨rfl, hok', rfl, rfl, hrng _, fun h => (by cases h), fun _ x hx => ?_⟩
    show x ∈ n :: near.filter _ ↔ 0 ≤ distI last' x ∧ distI last' x ≤ 32 ∧ (distI last' x = 0 ∨ (bits ||| 2 ^ (d - 1)).testBit ((distI last' x).toNat - 1) = true)
    rw [List.mem_cons, List.mem_filter, decide_eq_true_eq, hnear x hx, Nat.testBit_or, Bool.or_eq_true, Nat.testBit_two_pow, decide_eq_true_eq]
    constructor
    ·rintro (rfl | ⟨⟨h1, h2, h3⟩, -⟩)
     ·exact ⟨by omega, by omega, .inr (.inr (by omega))⟩
     ·exact ⟨h1, h2, h3.imp id .inl⟩
    ·rintro ⟨h1, h2, h3⟩
     by_cases h0 : distI last' x = 0
     ·exact .inr ⟨⟨h1, h2, .inl h0⟩, h1, h2⟩
     ·rcases h3 with h3 | h3 | h3
      ·exact absurd h3 h0
      ·exact .inr ⟨⟨h1, h2, .inr h3⟩, h1, h2⟩
      ·exact .inl (dist_eq (n := last') hx hn (by omega))
end Go.Proofs.YtipikchkbmgloaaGreatDoor
