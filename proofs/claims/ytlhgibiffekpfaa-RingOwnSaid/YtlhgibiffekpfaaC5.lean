/- The conditions of functions, written out: printed by a small program (VCDev.lean, vcgen.sh).  Conditions: none. -/
import Derived.Test.YtlhgibiffekpfaaTab
namespace Go.Proofs.Ytlhgibiffekpfaa
set_option linter.unusedSimpArgs false
set_option linter.unusedVariables false
open Go VC
theorem vc37 (a : Addr) (w : World) (R : Value → World → Prop)
  (h : allocC w (Obj.cells #[Value.pointer (some a)] (32 : Nat)) fun n0 w1 => R (Value.func (Fn.func (46 : Nat)) #[] #[Value.pointer (some { block := n0, off := (0 : Nat) : Addr })]) w1) :
  callV Try.prog 37 [Value.pointer (some a)] w R :=
  vc_of hm noHints Try.func37 ent37 (by kernel_rfl) h

theorem vc46 (a : Value) (c0 : Addr) (w : World) (R : Value → World → Prop)
  (h : rd (World.cell? w c0) fun v0 => isP v0 fun o1 => rd (nilChk (Value.pointer o1)) fun v2 => isPtr v2 fun a3 => rd (World.cell? w (Addr.add a3 (2 : Nat))) fun v4 => callV Try.prog (47 : Nat) [v4] w fun v5 w6 => callV Try.prog (44 : Nat) [v5] w6 fun v7 w8 => isSl v7 fun o9 n10 n11 => loopC (alist [((12 : Nat), Value.int IntKind.i64 (0 : Int))]) w8 fun u12 u13 => ∀ (u14 : Nat → Value) (w15 : World), u12 (alist [((12 : Nat), u14 (12 : Nat))]) w15 → rd (orO (binV BinOp.lss (u14 (12 : Nat)) (Value.int IntKind.i64 (↑n10 : Int))) none) fun v17 => isB v17 fun t18 => br t18 (isInt (u14 (12 : Nat)) fun k19 i20 => rd o9 fun a21 => ((0 : Int) ≤ i20 ∧ i20 < (↑n10 : Int)) ∧ rd (World.cell? w15 (Addr.add a21 (Int.toNat i20 * (1 : Nat)))) fun v22 => isK IntKind.i64 v22 fun i23 => rd (World.cell? w15 c0) fun v24 => isP v24 fun o25 => rd (nilChk (Value.pointer o25)) fun v26 => isPtr v26 fun a27 => rd (World.cell? w15 (Addr.add a27 (2 : Nat))) fun v28 => runs Try.prog (Instr.lookup (83 : Nat) v28 (Value.int IntKind.i64 i23) false) w15 fun v29 w30 => isK IntKind.i64 v29 fun i31 => isFn a fun f32 l33 l34 => callF Try.prog f32 (l33 ++ [Value.int IntKind.i64 i23, Value.int IntKind.i64 i31]) l34 w30 fun v35 w36 => isB v35 fun t37 => br (!t37) (R (Value.tuple #[]) w36) (rd (orO (binV BinOp.add (u14 (12 : Nat)) (Value.int IntKind.i64 (1 : Int))) none) fun v38 => isK IntKind.i64 v38 fun i39 => again u12 u13 (alist [((12 : Nat), Value.int IntKind.i64 i39)]) w36 (alist [((12 : Nat), u14 (12 : Nat))]) w15)) (R (Value.tuple #[]) w15)) :
  callV Try.prog 46 [a, Value.pointer (some c0)] w R :=
  vc_of hm ⟨fun _ => false, fun _ => .done, fun n => match n with | 1 => [12] | _ => []⟩ Try.func46 ent46 (by kernel_rfl) h

theorem vc44 (a : Value) (w : World) (R : Value → World → Prop)
  (h : callV Try.prog (48 : Nat) [a] w fun v0 w1 => isSl v0 fun o2 n3 n4 => callV Try.prog (49 : Nat) [Value.slice o2 n3 n4] w1 fun v5 w6 => R (Value.slice o2 n3 n4) w6) :
  callV Try.prog 44 [a] w R :=
  vc_of hm noHints Try.func44 ent44 (by kernel_rfl) h

theorem vc47 (a : Option Nat) (w : World) (R : Value → World → Prop)
  (h : allocC w (Obj.cells #[Value.map a] (83 : Nat)) fun n0 w1 => R (Value.func (Fn.func (51 : Nat)) #[] #[Value.pointer (some { block := n0, off := (0 : Nat) : Addr })]) w1) :
  callV Try.prog 47 [Value.map a] w R :=
  vc_of hm noHints Try.func47 ent47 (by kernel_rfl) h

theorem vc48 (a : Value) (w : World) (R : Value → World → Prop)
  (h : callV Try.prog (52 : Nat) [Value.slice none (0 : Nat) (0 : Nat), a] w fun v0 w1 => isSl v0 fun o2 n3 n4 => R (Value.slice o2 n3 n4) w1) :
  callV Try.prog 48 [a] w R :=
  vc_of hm noHints Try.func48 ent48 (by kernel_rfl) h

theorem vc52 (ap : Option Addr) (an : Nat) (ac : Nat) (b : Value) (w : World) (R : Value → World → Prop)
  (h : allocC w (Obj.cells #[Value.slice ap an ac] (31 : Nat)) fun n0 w1 => isFn b fun f2 l3 l4 => rd (gd (List.isEmpty l3 && true)) fun _x => rd (fnId f2) fun n5 => rangeC Try.prog n5 l4 (1 : Nat) w1 (fun u6 w7 u8 => rd (World.cell? w7 { block := n0, off := (0 : Nat) : Addr }) fun v9 => isSl v9 fun o10 n11 n12 => isK IntKind.i64 (u6 (0 : Nat)) fun i13 => runs Try.prog (Instr.buildSlice (31 : Nat) (1 : Nat) #[((0 : Nat), Value.int IntKind.i64 i13)]) w7 fun v14 w15 => isSl v14 fun o16 n17 n18 => runs Try.prog (Builtin.append_ #[(31 : Nat), (31 : Nat)] (31 : Nat) #[Value.slice o10 n11 n12, Value.slice o16 n17 n18]) w15 fun v19 w20 => isSl v19 fun o21 n22 n23 => stC w20 { block := n0, off := (0 : Nat) : Addr } [Value.slice o21 n22 n23] fun w24 => u8 Exit.normal w24) (fun n25 w26 => rd (World.cell? w26 { block := n0, off := (0 : Nat) : Addr }) fun v27 => isSl v27 fun o28 n29 n30 => leaveC (Value.tuple #[Value.pointer (some { block := n25, off := (0 : Nat) : Addr })]) w26 fun w31 => R (Value.slice o28 n29 n30) w31) (fun n32 w33 => leaveC (Value.tuple #[Value.pointer (some { block := n32, off := (0 : Nat) : Addr })]) w33 fun w34 => R (Value.slice none (0 : Nat) (0 : Nat)) w34) []) :
  callV Try.prog 52 [Value.slice ap an ac, b] w R :=
  vc_of hm noHints Try.func52 ent52 (by kernel_rfl) h

theorem vc51 (a : Value) (c0 : Addr) (w : World) (R : Value → World → Prop)
  (h : rd (World.cell? w c0) fun v0 => runs Try.prog (Instr.range (83 : Nat) v0) w fun v1 w2 => loopC (alist []) w2 fun u3 u4 => ∀ (u5 : Nat → Value) (w6 : World), u3 (alist []) w6 → runs Try.prog (Instr.next v1 false (0 : Nat)) w6 fun v8 w9 => isTup v8 fun l10 => rd l10[(0 : Nat)]? fun v11 => isB v11 fun t12 => br t12 (runs Try.prog (Instr.entry v1) w9 fun v13 w14 => isTup v13 fun l15 => rd l15[(0 : Nat)]? fun v16 => isK IntKind.i64 v16 fun i17 => isFn a fun f18 l19 l20 => callF Try.prog f18 (l19 ++ [Value.int IntKind.i64 i17]) l20 w14 fun v21 w22 => isB v21 fun t23 => br (!t23) (R (Value.tuple #[]) w22) (again u3 u4 (alist []) w22 (alist []) w6)) (R (Value.tuple #[]) w9)) :
  callV Try.prog 51 [a, Value.pointer (some c0)] w R :=
  vc_of hm ⟨fun _ => false, fun _ => .done, fun n => match n with | 1 => [] | _ => []⟩ Try.func51 ent51 (by kernel_rfl) h

theorem vc38 (a : Addr) (b : Int) (w : World) (R : Value → World → Prop)
  (h : loopC (alist [((5 : Nat), Value.int IntKind.i64 (0 : Int))]) w fun u0 u1 => ∀ (u2 : Nat → Value) (w3 : World), u0 (alist [((5 : Nat), u2 (5 : Nat))]) w3 → isK IntKind.i64 (u2 (5 : Nat)) fun i5 => rd (World.cell? w3 (Addr.add a (2 : Nat))) fun v6 => isSl v6 fun o7 n8 n9 => br (decide (i5 < (↑n8 : Int))) (rd (World.cell? w3 (Addr.add a (2 : Nat))) fun v10 => isSl v10 fun o11 n12 n13 => isK IntKind.i64 (u2 (5 : Nat)) fun i14 => rd o11 fun a15 => ((0 : Int) ≤ i14 ∧ i14 < (↑n12 : Int)) ∧ rd (World.cell? w3 (Addr.add a15 (Int.toNat i14 * (2 : Nat)))) fun v16 => isK IntKind.i64 v16 fun i17 => br (decide (i17 = b)) (isK IntKind.i64 (u2 (5 : Nat)) fun i18 => R (Value.int IntKind.i64 i18) w3) (isK IntKind.i64 (u2 (5 : Nat)) fun i19 => again u0 u1 (alist [((5 : Nat), Value.int IntKind.i64 (IntKind.wrap IntKind.i64 (i19 + (1 : Int))))]) w3 (alist [((5 : Nat), u2 (5 : Nat))]) w3)) (R (Value.int IntKind.i64 (-1 : Int)) w3)) :
  callV Try.prog 38 [Value.pointer (some a), Value.int IntKind.i64 b] w R :=
  vc_of hm ⟨fun _ => false, fun _ => .done, fun n => match n with | 2 => [5] | _ => []⟩ Try.func38 ent38 (by kernel_rfl) h

theorem vc45 (a : Option Nat) (w : World) (R : Value → World → Prop)
  (h : allocC w (Obj.cells #[Value.map a] (91 : Nat)) fun n0 w1 => R (Value.func (Fn.func (50 : Nat)) #[] #[Value.pointer (some { block := n0, off := (0 : Nat) : Addr })]) w1) :
  callV Try.prog 45 [Value.map a] w R :=
  vc_of hm noHints Try.func45 ent45 (by kernel_rfl) h

theorem vc50 (a : Value) (c0 : Addr) (w : World) (R : Value → World → Prop)
  (h : rd (World.cell? w c0) fun v0 => runs Try.prog (Instr.range (91 : Nat) v0) w fun v1 w2 => loopC (alist []) w2 fun u3 u4 => ∀ (u5 : Nat → Value) (w6 : World), u3 (alist []) w6 → runs Try.prog (Instr.next v1 false (0 : Nat)) w6 fun v8 w9 => isTup v8 fun l10 => rd l10[(0 : Nat)]? fun v11 => isB v11 fun t12 => br t12 (runs Try.prog (Instr.entry v1) w9 fun v13 w14 => isTup v13 fun l15 => rd l15[(0 : Nat)]? fun v16 => isK IntKind.i64 v16 fun i17 => isFn a fun f18 l19 l20 => callF Try.prog f18 (l19 ++ [Value.int IntKind.i64 i17]) l20 w14 fun v21 w22 => isB v21 fun t23 => br (!t23) (R (Value.tuple #[]) w22) (again u3 u4 (alist []) w22 (alist []) w6)) (R (Value.tuple #[]) w9)) :
  callV Try.prog 50 [a, Value.pointer (some c0)] w R :=
  vc_of hm ⟨fun _ => false, fun _ => .done, fun n => match n with | 1 => [] | _ => []⟩ Try.func50 ent50 (by kernel_rfl) h

theorem vc36 (a : Addr) (w : World) (R : Value → World → Prop)
  (h : allocC w (Obj.cells #[Value.pointer (some a)] (56 : Nat)) fun n0 w1 => R (Value.func (Fn.func (43 : Nat)) #[] #[Value.pointer (some { block := n0, off := (0 : Nat) : Addr })]) w1) :
  callV Try.prog 36 [Value.pointer (some a)] w R :=
  vc_of hm noHints Try.func36 ent36 (by kernel_rfl) h

theorem vc43 (a : Value) (c0 : Addr) (w : World) (R : Value → World → Prop)
  (h : rd (World.cell? w c0) fun v0 => isP v0 fun o1 => rd (nilChk (Value.pointer o1)) fun v2 => isPtr v2 fun a3 => rd (World.cell? w (Addr.add a3 (2 : Nat))) fun v4 => callV Try.prog (45 : Nat) [v4] w fun v5 w6 => callV Try.prog (44 : Nat) [v5] w6 fun v7 w8 => isSl v7 fun o9 n10 n11 => loopC (alist [((12 : Nat), Value.int IntKind.i64 (0 : Int))]) w8 fun u12 u13 => ∀ (u14 : Nat → Value) (w15 : World), u12 (alist [((12 : Nat), u14 (12 : Nat))]) w15 → rd (orO (binV BinOp.lss (u14 (12 : Nat)) (Value.int IntKind.i64 (↑n10 : Int))) none) fun v17 => isB v17 fun t18 => br t18 (isInt (u14 (12 : Nat)) fun k19 i20 => rd o9 fun a21 => ((0 : Int) ≤ i20 ∧ i20 < (↑n10 : Int)) ∧ rd (World.cell? w15 (Addr.add a21 (Int.toNat i20 * (1 : Nat)))) fun v22 => isK IntKind.i64 v22 fun i23 => rd (World.cell? w15 c0) fun v24 => isP v24 fun o25 => rd (nilChk (Value.pointer o25)) fun v26 => isPtr v26 fun a27 => rd (World.cell? w15 (Addr.add a27 (2 : Nat))) fun v28 => runs Try.prog (Instr.lookup (91 : Nat) v28 (Value.int IntKind.i64 i23) false) w15 fun v29 w30 => isFn a fun f31 l32 l33 => callF Try.prog f31 (l32 ++ [Value.int IntKind.i64 i23, v29]) l33 w30 fun v34 w35 => isB v34 fun t36 => br (!t36) (R (Value.tuple #[]) w35) (rd (orO (binV BinOp.add (u14 (12 : Nat)) (Value.int IntKind.i64 (1 : Int))) none) fun v37 => isK IntKind.i64 v37 fun i38 => again u12 u13 (alist [((12 : Nat), Value.int IntKind.i64 i38)]) w35 (alist [((12 : Nat), u14 (12 : Nat))]) w15)) (R (Value.tuple #[]) w15)) :
  callV Try.prog 43 [a, Value.pointer (some c0)] w R :=
  vc_of hm ⟨fun _ => false, fun _ => .done, fun n => match n with | 1 => [12] | _ => []⟩ Try.func43 ent43 (by kernel_rfl) h

end Go.Proofs.Ytlhgibiffekpfaa
