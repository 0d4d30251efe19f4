/- The conditions of functions, written out: printed by a small program (VCDev.lean, vcgen.sh).  Conditions: none. -/
import Derived.Test.YtlhgibiffekpfaaTab
namespace Go.Proofs.Ytlhgibiffekpfaa
set_option linter.unusedSimpArgs false
set_option linter.unusedVariables false
open Go VC
theorem vc12 (a : Int) (w : World) (R : Value → World → Prop)
  (h : allocC w (Obj.cells #[Value.int IntKind.i64 (max a (1 : Int)), Value.int IntKind.i64 (0 : Int), Value.slice none (0 : Nat) (0 : Nat)] (82 : Nat)) fun n0 w1 =>
  R (Value.pointer (some { block := n0, off := (0 : Nat) : Addr })) w1) :
  callV Try.prog 12 [Value.int IntKind.i64 a] w R :=
  vc_of hm noHints Try.func12 ent12 (by kernel_rfl) h

theorem vc13 (a : Addr) (b : ByteArray) (w : World) (R : Value → World → Prop)
  (h : rd (World.cell? (World.drew w) (Addr.add a (2 : Nat))) fun v0 =>
  isSl v0 fun o1 n2 n3 =>
    rd (World.cell? (World.drew w) a) fun v4 =>
      isK IntKind.i64 v4 fun i5 =>
        br (decide ((↑n2 : Int) < i5))
          (rd (World.cell? (World.drew w) (Addr.add a (2 : Nat))) fun v6 =>
            isSl v6 fun o7 n8 n9 =>
              runs Try.prog (Instr.buildSlice (22 : Nat) (1 : Nat) #[((0 : Nat), Value.string b)]) (World.drew w) fun v10 w11 =>
                isSl v10 fun o12 n13 n14 =>
                  runs Try.prog (Builtin.append_ #[(22 : Nat), (22 : Nat)] (22 : Nat) #[Value.slice o7 n8 n9, Value.slice o12 n13 n14]) w11 fun v15 w16 =>
                    isSl v15 fun o17 n18 n19 =>
                      stC w16 (Addr.add a (2 : Nat)) [Value.slice o17 n18 n19] fun w20 => R (Value.tuple #[Value.string { data := #[] : ByteArray }, Value.bool false]) w20)
          (rd (World.cell? (World.drew (World.drew w)) (Addr.add a (2 : Nat))) fun v21 =>
            isSl v21 fun o22 n23 n24 =>
              rd (World.cell? (World.drew (World.drew w)) (Addr.add a (1 : Nat))) fun v25 =>
                isK IntKind.i64 v25 fun i26 =>
                  rd o22 fun a27 =>
                    ((0 : Int) ≤ i26 ∧ i26 < (↑n23 : Int)) ∧
                      rd (World.cell? (World.drew (World.drew w)) (Addr.add a27 (Int.toNat i26 * (1 : Nat)))) fun v28 =>
                        isStr v28 fun x29 =>
                          heldC (World.drew (World.drew (World.drew w))) fun u30 =>
                            (∀ (w31 : World), u30 w31 → Value.pointer (some a) = Value.pointer (some a) ∧ w31 = w31) ∧
                              (∀ (w33 : World), u30 w33 → Value.pointer (some a) = Value.pointer (some a) ∧ w33 = w33) ∧
                                (∀ (w35 : World), u30 w35 → Value.pointer (some (Addr.add a (2 : Nat))) = Value.pointer (some (Addr.add a (2 : Nat))) ∧ w35 = w35) ∧
                                  rd (World.cell? (World.drew (World.drew (World.drew w))) (Addr.add a (2 : Nat))) fun v37 =>
                                    (∀ (w38 : World), u30 w38 → rd (World.cell? w38 (Addr.add a (2 : Nat))) fun v40 => v40 = v37 ∧ w38 = w38) ∧
                                      isSl v37 fun o41 n42 n43 =>
                                        (∀ (w44 : World), u30 w44 → Value.pointer (some a) = Value.pointer (some a) ∧ w44 = w44) ∧
                                          (∀ (w46 : World), u30 w46 → Value.pointer (some a) = Value.pointer (some a) ∧ w46 = w46) ∧
                                            (∀ (w48 : World), u30 w48 → Value.pointer (some (Addr.add a (1 : Nat))) = Value.pointer (some (Addr.add a (1 : Nat))) ∧ w48 = w48) ∧
                                              rd (World.cell? (World.drew (World.drew (World.drew w))) (Addr.add a (1 : Nat))) fun v50 =>
                                                (∀ (w51 : World), u30 w51 → rd (World.cell? w51 (Addr.add a (1 : Nat))) fun v53 => v53 = v50 ∧ w51 = w51) ∧
                                                  isK IntKind.i64 v50 fun i54 =>
                                                    (∀ (w55 : World), u30 w55 → Value.string b = Value.string b ∧ w55 = w55) ∧
                                                      rd o41 fun a57 =>
                                                        ((0 : Int) ≤ i54 ∧ i54 < (↑n42 : Int)) ∧
                                                          (∀ (w58 : World),
                                                              u30 w58 →
                                                                rd o41 fun a60 =>
                                                                  ((0 : Int) ≤ i54 ∧ i54 < (↑n42 : Int)) ∧
                                                                    Value.pointer (some (Addr.add a60 (Int.toNat i54 * (1 : Nat)))) =
                                                                        Value.pointer (some (Addr.add a57 (Int.toNat i54 * (1 : Nat)))) ∧
                                                                      w58 = w58) ∧
                                                            stC (World.drew (World.drew (World.drew w))) (Addr.add a57 (Int.toNat i54 * (1 : Nat))) [Value.string b] fun w61 =>
                                                              u30 w61 ∧
                                                                heldC (World.drew w61) fun u62 =>
                                                                  (∀ (w63 : World), u62 w63 → Value.pointer (some a) = Value.pointer (some a) ∧ w63 = w63) ∧
                                                                    (∀ (w65 : World), u62 w65 → Value.pointer (some a) = Value.pointer (some a) ∧ w65 = w65) ∧
                                                                      (∀ (w67 : World), u62 w67 → Value.pointer (some a) = Value.pointer (some a) ∧ w67 = w67) ∧
                                                                        (∀ (w69 : World),
                                                                            u62 w69 →
                                                                              Value.pointer (some (Addr.add a (1 : Nat))) = Value.pointer (some (Addr.add a (1 : Nat))) ∧
                                                                                w69 = w69) ∧
                                                                          (∀ (w71 : World), u62 w71 → Value.pointer (some a) = Value.pointer (some a) ∧ w71 = w71) ∧
                                                                            (∀ (w73 : World), u62 w73 → Value.pointer (some a) = Value.pointer (some a) ∧ w73 = w73) ∧
                                                                              (∀ (w75 : World), u62 w75 → Value.pointer (some a) = Value.pointer (some a) ∧ w75 = w75) ∧
                                                                                rd (World.cell? (World.drew w61) a) fun v77 =>
                                                                                  (∀ (w78 : World), u62 w78 → rd (World.cell? w78 a) fun v80 => v80 = v77 ∧ w78 = w78) ∧
                                                                                    isK IntKind.i64 v77 fun i81 =>
                                                                                      rd (World.cell? (World.drew w61) (Addr.add a (1 : Nat))) fun v82 =>
                                                                                        isK IntKind.i64 v82 fun i83 =>
                                                                                          u62 (World.drew w61) ∧
                                                                                            (∀ (w84 : World),
                                                                                                u62 w84 →
                                                                                                  Value.int IntKind.i64 (IntKind.wrap IntKind.i64 (i83 + (1 : Int))) =
                                                                                                      Value.int IntKind.i64 (IntKind.wrap IntKind.i64 (i83 + (1 : Int))) ∧
                                                                                                    w84 = w84) ∧
                                                                                              rd
                                                                                                (orO
                                                                                                  (binV BinOp.rem
                                                                                                    (Value.int IntKind.i64 (IntKind.wrap IntKind.i64 (i83 + (1 : Int))))
                                                                                                    (Value.int IntKind.i64 i81))
                                                                                                  none)
                                                                                                fun v86 =>
                                                                                                (∀ (w87 : World),
                                                                                                    u62 w87 →
                                                                                                      rd
                                                                                                        (orO
                                                                                                          (binV BinOp.rem
                                                                                                            (Value.int IntKind.i64 (IntKind.wrap IntKind.i64 (i83 + (1 : Int))))
                                                                                                            (Value.int IntKind.i64 i81))
                                                                                                          none)
                                                                                                        fun v89 => v89 = v86 ∧ w87 = w87) ∧
                                                                                                  isK IntKind.i64 v86 fun i90 =>
                                                                                                    (∀ (w91 : World),
                                                                                                        u62 w91 → Value.pointer (some a) = Value.pointer (some a) ∧ w91 = w91) ∧
                                                                                                      (∀ (w93 : World),
                                                                                                          u62 w93 →
                                                                                                            Value.pointer (some (Addr.add a (1 : Nat))) =
                                                                                                                Value.pointer (some (Addr.add a (1 : Nat))) ∧
                                                                                                              w93 = w93) ∧
                                                                                                        stC (World.drew w61) (Addr.add a (1 : Nat)) [Value.int IntKind.i64 i90]
                                                                                                          fun w95 =>
                                                                                                          u62 w95 ∧ R (Value.tuple #[Value.string x29, Value.bool true]) w95)) :
  callV Try.prog 13 [Value.pointer (some a), Value.string b] w R :=
  vc_of hm ⟨fun _ => false, fun n => match n with | 1 => .take 0 (.take 1 (.take 2 (.take 3 (.take 4 (.take 5 (.take 6 (.take 7 (.take 8 (.take 9 (.done)))))))))) | 4 => .take 0 (.take 1 (.take 2 (.take 3 (.take 4 (.take 5 (.take 6 (.take 7 (.take 8 (.take 9 (.take 10 (.done))))))))))) | 5 => .take 0 (.take 1 (.take 2 (.take 3 (.take 4 (.take 5 (.take 6 (.take 7 (.take 8 (.take 9 (.one 10 (.done))))))))))) | 6 => .take 0 (.take 1 (.take 2 (.take 3 (.take 6 (.take 7 (.take 8 (.take 9 (.one 4 (.take 5 (.take 10 (.take 11 (.take 12 (.one 13 (.done)))))))))))))) | _ => .done, fun _ => []⟩ Try.func13 ent13 (by kernel_rfl) h

theorem vc14 (a : Addr) (w : World) (R : Value → World → Prop)
  (h : rd (World.cell? w (Addr.add a (2 : Nat))) fun v0 => isSl v0 fun o1 n2 n3 => R (Value.int IntKind.i64 (↑n2 : Int)) w) :
  callV Try.prog 14 [Value.pointer (some a)] w R :=
  vc_of hm noHints Try.func14 ent14 (by kernel_rfl) h

theorem vc15 (a : Addr) (b : Int) (w : World) (R : Value → World → Prop)
  (h : br (decide (b < (0 : Int))) (R (Value.tuple #[Value.string { data := #[] : ByteArray }, Value.bool false]) w)
  (rd (World.cell? w (Addr.add a (2 : Nat))) fun v0 =>
    isSl v0 fun o1 n2 n3 =>
      br (decide ((↑n2 : Int) ≤ b)) (R (Value.tuple #[Value.string { data := #[] : ByteArray }, Value.bool false]) w)
        (rd (World.cell? (World.drew w) (Addr.add a (2 : Nat))) fun v4 =>
          isSl v4 fun o5 n6 n7 =>
            rd (World.cell? (World.drew w) (Addr.add a (1 : Nat))) fun v8 =>
              isK IntKind.i64 v8 fun i9 =>
                rd (World.cell? (World.drew w) (Addr.add a (2 : Nat))) fun v10 =>
                  isSl v10 fun o11 n12 n13 =>
                    rd (orO (binV BinOp.rem (Value.int IntKind.i64 (IntKind.wrap IntKind.i64 (i9 + b))) (Value.int IntKind.i64 (↑n12 : Int))) none) fun v14 =>
                      isK IntKind.i64 v14 fun i15 =>
                        rd o5 fun a16 =>
                          ((0 : Int) ≤ i15 ∧ i15 < (↑n6 : Int)) ∧
                            rd (World.cell? (World.drew w) (Addr.add a16 (Int.toNat i15 * (1 : Nat)))) fun v17 =>
                              isStr v17 fun x18 => R (Value.tuple #[Value.string x18, Value.bool true]) (World.drew w)))) :
  callV Try.prog 15 [Value.pointer (some a), Value.int IntKind.i64 b] w R :=
  vc_of hm ⟨fun _ => false, fun n => match n with | 3 => .take 0 (.take 1 (.take 2 (.take 3 (.take 4 (.take 5 (.take 6 (.take 7 (.take 8 (.take 9 (.take 10 (.take 11 (.take 12 (.take 13 (.take 14 (.take 15 (.take 16 (.take 17 (.take 18 (.take 19 (.done)))))))))))))))))))) | _ => .done, fun _ => []⟩ Try.func15 ent15 (by kernel_rfl) h

theorem vc16 (a : Int) (w : World) (R : Value → World → Prop)
  (h : allocC w (Obj.map #[] (0 : Nat)) fun n0 w1 =>
  allocC w1 (Obj.cells #[Value.int IntKind.i64 (max a (1 : Int)), Value.int IntKind.i64 (0 : Int), Value.map (some n0)] (85 : Nat)) fun n2 w3 =>
    R (Value.pointer (some { block := n2, off := (0 : Nat) : Addr })) w3) :
  callV Try.prog 16 [Value.int IntKind.i64 a] w R :=
  vc_of hm noHints Try.func16 ent16 (by kernel_rfl) h

theorem vc17 (a : Addr) (w : World) (R : Value → World → Prop)
  (h : rd (World.cell? w (Addr.add a (2 : Nat))) fun v0 =>
  runs Try.prog (Builtin.len_ #[(83 : Nat)] (3 : Nat) #[v0]) w fun v1 w2 => isK IntKind.i64 v1 fun i3 => R (Value.int IntKind.i64 i3) w2) :
  callV Try.prog 17 [Value.pointer (some a)] w R :=
  vc_of hm noHints Try.func17 ent17 (by kernel_rfl) h

theorem vc18 (a : Addr) (b : Int) (w : World) (R : Value → World → Prop)
  (h : heldC (World.drew w) fun u0 =>
  (∀ (w1 : World), u0 w1 → Value.pointer (some a) = Value.pointer (some a) ∧ w1 = w1) ∧
    (∀ (w3 : World), u0 w3 → Value.pointer (some a) = Value.pointer (some a) ∧ w3 = w3) ∧
      (∀ (w5 : World), u0 w5 → Value.pointer (some (Addr.add a (2 : Nat))) = Value.pointer (some (Addr.add a (2 : Nat))) ∧ w5 = w5) ∧
        rd (World.cell? (World.drew w) (Addr.add a (2 : Nat))) fun v7 =>
          (∀ (w8 : World), u0 w8 → rd (World.cell? w8 (Addr.add a (2 : Nat))) fun v10 => v10 = v7 ∧ w8 = w8) ∧
            runs Try.prog (Builtin.len_ #[(83 : Nat)] (3 : Nat) #[v7]) (World.drew w) fun v11 w12 =>
              (∀ (w13 : World), u0 w13 → runs Try.prog (Builtin.len_ #[(83 : Nat)] (3 : Nat) #[v7]) w13 fun v15 w16 => v15 = v11 ∧ w16 = w13) ∧
                isK IntKind.i64 v11 fun i17 =>
                  (∀ (w18 : World), u0 w18 → Value.pointer (some a) = Value.pointer (some a) ∧ w18 = w18) ∧
                    (∀ (w20 : World), u0 w20 → Value.pointer (some a) = Value.pointer (some a) ∧ w20 = w20) ∧
                      (∀ (w22 : World), u0 w22 → Value.pointer (some a) = Value.pointer (some a) ∧ w22 = w22) ∧
                        rd (World.cell? (World.drew w) a) fun v24 =>
                          (∀ (w25 : World), u0 w25 → rd (World.cell? w25 a) fun v27 => v27 = v24 ∧ w25 = w25) ∧
                            isK IntKind.i64 v24 fun i28 =>
                              (∀ (w29 : World), u0 w29 → Value.bool (decide (i28 ≤ i17)) = Value.bool (decide (i28 ≤ i17)) ∧ w29 = w29) ∧
                                br (decide (i28 ≤ i17)) (R (Value.tuple #[Value.int IntKind.i64 (0 : Int), Value.int IntKind.i64 (5 : Int)]) (World.drew w))
                                  (rd (World.cell? (World.drew w) (Addr.add a (1 : Nat))) fun v31 =>
                                    isK IntKind.i64 v31 fun i32 =>
                                      stC (World.drew w) (Addr.add a (1 : Nat)) [Value.int IntKind.i64 (IntKind.wrap IntKind.i64 (i32 + (1 : Int)))] fun w33 =>
                                        heldC (World.drew w33) fun u34 =>
                                          (∀ (w35 : World), u34 w35 → Value.pointer (some a) = Value.pointer (some a) ∧ w35 = w35) ∧
                                            (∀ (w37 : World), u34 w37 → Value.pointer (some a) = Value.pointer (some a) ∧ w37 = w37) ∧
                                              (∀ (w39 : World), u34 w39 → Value.pointer (some (Addr.add a (2 : Nat))) = Value.pointer (some (Addr.add a (2 : Nat))) ∧ w39 = w39) ∧
                                                rd (World.cell? (World.drew w33) (Addr.add a (2 : Nat))) fun v41 =>
                                                  (∀ (w42 : World), u34 w42 → rd (World.cell? w42 (Addr.add a (2 : Nat))) fun v44 => v44 = v41 ∧ w42 = w42) ∧
                                                    (∀ (w45 : World), u34 w45 → Value.pointer (some a) = Value.pointer (some a) ∧ w45 = w45) ∧
                                                      (∀ (w47 : World), u34 w47 → Value.pointer (some a) = Value.pointer (some a) ∧ w47 = w47) ∧
                                                        (∀ (w49 : World),
                                                            u34 w49 → Value.pointer (some (Addr.add a (1 : Nat))) = Value.pointer (some (Addr.add a (1 : Nat))) ∧ w49 = w49) ∧
                                                          rd (World.cell? (World.drew w33) (Addr.add a (1 : Nat))) fun v51 =>
                                                            (∀ (w52 : World), u34 w52 → rd (World.cell? w52 (Addr.add a (1 : Nat))) fun v54 => v54 = v51 ∧ w52 = w52) ∧
                                                              isK IntKind.i64 v51 fun i55 =>
                                                                (∀ (w56 : World), u34 w56 → Value.int IntKind.i64 b = Value.int IntKind.i64 b ∧ w56 = w56) ∧
                                                                  runsU Try.prog (Instr.mapUpdate (83 : Nat) v41 (Value.int IntKind.i64 i55) (Value.int IntKind.i64 b))
                                                                    (World.drew w33) fun w58 =>
                                                                    u34 w58 ∧
                                                                      rd (World.cell? w58 (Addr.add a (1 : Nat))) fun v59 =>
                                                                        isK IntKind.i64 v59 fun i60 =>
                                                                          R (Value.tuple #[Value.int IntKind.i64 i60, Value.int IntKind.i64 (0 : Int)]) w58)) :
  callV Try.prog 18 [Value.pointer (some a), Value.int IntKind.i64 b] w R :=
  vc_of hm ⟨fun _ => false, fun n => match n with | 1 => .take 0 (.take 1 (.take 2 (.take 3 (.take 4 (.take 5 (.take 6 (.take 7 (.take 8 (.take 9 (.done)))))))))) | 4 => .take 0 (.take 1 (.take 2 (.take 3 (.take 4 (.take 5 (.take 6 (.take 7 (.take 8 (.one 9 (.done)))))))))) | _ => .done, fun _ => []⟩ Try.func18 ent18 (by kernel_rfl) h

theorem vc19 (a : Addr) (b : Int) (w : World) (R : Value → World → Prop)
  (h : rd (World.cell? w (Addr.add a (2 : Nat))) fun v0 =>
  runs Try.prog (Instr.lookup (83 : Nat) v0 (Value.int IntKind.i64 b) true) w fun v1 w2 =>
    isTup v1 fun l3 =>
      rd l3[(0 : Nat)]? fun v4 =>
        isK IntKind.i64 v4 fun i5 => isTup v1 fun l6 => rd l6[(1 : Nat)]? fun v7 => isB v7 fun t8 => R (Value.tuple #[Value.int IntKind.i64 i5, Value.bool t8]) w2) :
  callV Try.prog 19 [Value.pointer (some a), Value.int IntKind.i64 b] w R :=
  vc_of hm noHints Try.func19 ent19 (by kernel_rfl) h

theorem vc20 (a : Addr) (b : Int) (w : World) (R : Value → World → Prop)
  (h : rd (World.cell? w (Addr.add a (2 : Nat))) fun v0 =>
  runs Try.prog (Instr.lookup (83 : Nat) v0 (Value.int IntKind.i64 b) true) w fun v1 w2 =>
    isTup v1 fun l3 =>
      rd l3[(0 : Nat)]? fun v4 =>
        isK IntKind.i64 v4 fun i5 =>
          isTup v1 fun l6 =>
            rd l6[(1 : Nat)]? fun v7 =>
              isB v7 fun t8 =>
                rd (World.cell? w2 (Addr.add a (2 : Nat))) fun v9 =>
                  runs Try.prog (Builtin.delete_ #[(83 : Nat), (3 : Nat)] (0 : Nat) #[v9, Value.int IntKind.i64 b]) w2 fun v10 w11 => R (Value.bool t8) w11) :
  callV Try.prog 20 [Value.pointer (some a), Value.int IntKind.i64 b] w R :=
  vc_of hm noHints Try.func20 ent20 (by kernel_rfl) h

theorem vc21 (a : Addr) (b : Int) (c : Int) (w : World) (R : Value → World → Prop)
  (h : rd (World.cell? w (Addr.add a (2 : Nat))) fun v0 =>
  runs Try.prog (Instr.lookup (83 : Nat) v0 (Value.int IntKind.i64 b) true) w fun v1 w2 =>
    isTup v1 fun l3 =>
      rd l3[(0 : Nat)]? fun v4 =>
        isK IntKind.i64 v4 fun i5 =>
          isTup v1 fun l6 =>
            rd l6[(1 : Nat)]? fun v7 =>
              isB v7 fun t8 =>
                br t8
                  (rd (World.cell? w2 (Addr.add a (2 : Nat))) fun v9 =>
                    runsU Try.prog (Instr.mapUpdate (83 : Nat) v9 (Value.int IntKind.i64 b) (Value.int IntKind.i64 c)) w2 fun w10 => R (Value.bool t8) w10)
                  (R (Value.bool t8) w2)) :
  callV Try.prog 21 [Value.pointer (some a), Value.int IntKind.i64 b, Value.int IntKind.i64 c] w R :=
  vc_of hm noHints Try.func21 ent21 (by kernel_rfl) h

theorem vc22 (a : Int) (w : World) (R : Value → World → Prop)
  (h : allocC w (Obj.map #[] (0 : Nat)) fun n0 w1 =>
  allocC w1 (Obj.cells #[Value.int IntKind.i64 (max a (1 : Int)), Value.int IntKind.i64 (0 : Int), Value.map (some n0)] (88 : Nat)) fun n2 w3 =>
    R (Value.pointer (some { block := n2, off := (0 : Nat) : Addr })) w3) :
  callV Try.prog 22 [Value.int IntKind.i64 a] w R :=
  vc_of hm noHints Try.func22 ent22 (by kernel_rfl) h

theorem vc23 (a : Addr) (b : ByteArray) (w : World) (R : Value → World → Prop)
  (h : heldC (World.drew w) fun u0 =>
  (∀ (w1 : World), u0 w1 → Value.pointer (some a) = Value.pointer (some a) ∧ w1 = w1) ∧
    (∀ (w3 : World), u0 w3 → Value.pointer (some a) = Value.pointer (some a) ∧ w3 = w3) ∧
      (∀ (w5 : World), u0 w5 → Value.pointer (some (Addr.add a (2 : Nat))) = Value.pointer (some (Addr.add a (2 : Nat))) ∧ w5 = w5) ∧
        rd (World.cell? (World.drew w) (Addr.add a (2 : Nat))) fun v7 =>
          (∀ (w8 : World), u0 w8 → rd (World.cell? w8 (Addr.add a (2 : Nat))) fun v10 => v10 = v7 ∧ w8 = w8) ∧
            runs Try.prog (Builtin.len_ #[(86 : Nat)] (3 : Nat) #[v7]) (World.drew w) fun v11 w12 =>
              (∀ (w13 : World), u0 w13 → runs Try.prog (Builtin.len_ #[(86 : Nat)] (3 : Nat) #[v7]) w13 fun v15 w16 => v15 = v11 ∧ w16 = w13) ∧
                isK IntKind.i64 v11 fun i17 =>
                  (∀ (w18 : World), u0 w18 → Value.pointer (some a) = Value.pointer (some a) ∧ w18 = w18) ∧
                    (∀ (w20 : World), u0 w20 → Value.pointer (some a) = Value.pointer (some a) ∧ w20 = w20) ∧
                      (∀ (w22 : World), u0 w22 → Value.pointer (some a) = Value.pointer (some a) ∧ w22 = w22) ∧
                        rd (World.cell? (World.drew w) a) fun v24 =>
                          (∀ (w25 : World), u0 w25 → rd (World.cell? w25 a) fun v27 => v27 = v24 ∧ w25 = w25) ∧
                            isK IntKind.i64 v24 fun i28 =>
                              (∀ (w29 : World), u0 w29 → Value.bool (decide (i28 ≤ i17)) = Value.bool (decide (i28 ≤ i17)) ∧ w29 = w29) ∧
                                br (decide (i28 ≤ i17)) (R (Value.tuple #[Value.int IntKind.i64 (0 : Int), Value.int IntKind.i64 (5 : Int)]) (World.drew w))
                                  (rd (World.cell? (World.drew w) (Addr.add a (1 : Nat))) fun v31 =>
                                    isK IntKind.i64 v31 fun i32 =>
                                      stC (World.drew w) (Addr.add a (1 : Nat)) [Value.int IntKind.i64 (IntKind.wrap IntKind.i64 (i32 + (1 : Int)))] fun w33 =>
                                        heldC (World.drew w33) fun u34 =>
                                          (∀ (w35 : World), u34 w35 → Value.pointer (some a) = Value.pointer (some a) ∧ w35 = w35) ∧
                                            (∀ (w37 : World), u34 w37 → Value.pointer (some a) = Value.pointer (some a) ∧ w37 = w37) ∧
                                              (∀ (w39 : World), u34 w39 → Value.pointer (some (Addr.add a (2 : Nat))) = Value.pointer (some (Addr.add a (2 : Nat))) ∧ w39 = w39) ∧
                                                rd (World.cell? (World.drew w33) (Addr.add a (2 : Nat))) fun v41 =>
                                                  (∀ (w42 : World), u34 w42 → rd (World.cell? w42 (Addr.add a (2 : Nat))) fun v44 => v44 = v41 ∧ w42 = w42) ∧
                                                    (∀ (w45 : World), u34 w45 → Value.pointer (some a) = Value.pointer (some a) ∧ w45 = w45) ∧
                                                      (∀ (w47 : World), u34 w47 → Value.pointer (some a) = Value.pointer (some a) ∧ w47 = w47) ∧
                                                        (∀ (w49 : World),
                                                            u34 w49 → Value.pointer (some (Addr.add a (1 : Nat))) = Value.pointer (some (Addr.add a (1 : Nat))) ∧ w49 = w49) ∧
                                                          rd (World.cell? (World.drew w33) (Addr.add a (1 : Nat))) fun v51 =>
                                                            (∀ (w52 : World), u34 w52 → rd (World.cell? w52 (Addr.add a (1 : Nat))) fun v54 => v54 = v51 ∧ w52 = w52) ∧
                                                              isK IntKind.i64 v51 fun i55 =>
                                                                (∀ (w56 : World), u34 w56 → Value.string b = Value.string b ∧ w56 = w56) ∧
                                                                  runsU Try.prog (Instr.mapUpdate (86 : Nat) v41 (Value.int IntKind.i64 i55) (Value.string b)) (World.drew w33)
                                                                    fun w58 =>
                                                                    u34 w58 ∧
                                                                      rd (World.cell? w58 (Addr.add a (1 : Nat))) fun v59 =>
                                                                        isK IntKind.i64 v59 fun i60 =>
                                                                          R (Value.tuple #[Value.int IntKind.i64 i60, Value.int IntKind.i64 (0 : Int)]) w58)) :
  callV Try.prog 23 [Value.pointer (some a), Value.string b] w R :=
  vc_of hm ⟨fun _ => false, fun n => match n with | 1 => .take 0 (.take 1 (.take 2 (.take 3 (.take 4 (.take 5 (.take 6 (.take 7 (.take 8 (.take 9 (.done)))))))))) | 4 => .take 0 (.take 1 (.take 2 (.take 3 (.take 4 (.take 5 (.take 6 (.take 7 (.take 8 (.one 9 (.done)))))))))) | _ => .done, fun _ => []⟩ Try.func23 ent23 (by kernel_rfl) h

theorem vc24 (a : Addr) (b : Int) (w : World) (R : Value → World → Prop)
  (h : rd (World.cell? w (Addr.add a (2 : Nat))) fun v0 =>
  runs Try.prog (Instr.lookup (86 : Nat) v0 (Value.int IntKind.i64 b) true) w fun v1 w2 =>
    isTup v1 fun l3 =>
      rd l3[(0 : Nat)]? fun v4 =>
        isStr v4 fun x5 =>
          isTup v1 fun l6 =>
            rd l6[(1 : Nat)]? fun v7 =>
              isB v7 fun t8 =>
                rd (World.cell? w2 (Addr.add a (2 : Nat))) fun v9 =>
                  runs Try.prog (Builtin.delete_ #[(86 : Nat), (3 : Nat)] (0 : Nat) #[v9, Value.int IntKind.i64 b]) w2 fun v10 w11 => R (Value.bool t8) w11) :
  callV Try.prog 24 [Value.pointer (some a), Value.int IntKind.i64 b] w R :=
  vc_of hm noHints Try.func24 ent24 (by kernel_rfl) h

theorem vc25 (a : Addr) (b : Int) (c : ByteArray) (w : World) (R : Value → World → Prop)
  (h : rd (World.cell? w (Addr.add a (2 : Nat))) fun v0 =>
  runs Try.prog (Instr.lookup (86 : Nat) v0 (Value.int IntKind.i64 b) true) w fun v1 w2 =>
    isTup v1 fun l3 =>
      rd l3[(0 : Nat)]? fun v4 =>
        isStr v4 fun x5 =>
          isTup v1 fun l6 =>
            rd l6[(1 : Nat)]? fun v7 =>
              isB v7 fun t8 =>
                br t8
                  (rd (World.cell? w2 (Addr.add a (2 : Nat))) fun v9 =>
                    runsU Try.prog (Instr.mapUpdate (86 : Nat) v9 (Value.int IntKind.i64 b) (Value.string c)) w2 fun w10 => R (Value.bool t8) w10)
                  (R (Value.bool t8) w2)) :
  callV Try.prog 25 [Value.pointer (some a), Value.int IntKind.i64 b, Value.string c] w R :=
  vc_of hm noHints Try.func25 ent25 (by kernel_rfl) h

theorem vc26 (a : Addr) (w : World) (R : Value → World → Prop)
  (h : rd (World.cell? w (Addr.add a (2 : Nat))) fun v0 =>
  runs Try.prog (Builtin.len_ #[(86 : Nat)] (3 : Nat) #[v0]) w fun v1 w2 => isK IntKind.i64 v1 fun i3 => R (Value.int IntKind.i64 i3) w2) :
  callV Try.prog 26 [Value.pointer (some a)] w R :=
  vc_of hm noHints Try.func26 ent26 (by kernel_rfl) h

theorem vc27 (a : Int) (w : World) (R : Value → World → Prop)
  (h : allocC w (Obj.cells #[Value.int IntKind.i64 (max a (1 : Int)), Value.int IntKind.i64 (0 : Int), Value.slice none (0 : Nat) (0 : Nat)] (90 : Nat)) fun n0 w1 =>
  R (Value.pointer (some { block := n0, off := (0 : Nat) : Addr })) w1) :
  callV Try.prog 27 [Value.int IntKind.i64 a] w R :=
  vc_of hm noHints Try.func27 ent27 (by kernel_rfl) h

theorem vc28 (a : Addr) (b : Int) (w : World) (R : Value → World → Prop)
  (h : rd (World.cell? (World.drew w) (Addr.add a (2 : Nat))) fun v0 =>
  isSl v0 fun o1 n2 n3 =>
    rd (World.cell? (World.drew w) a) fun v4 =>
      isK IntKind.i64 v4 fun i5 =>
        br (decide ((↑n2 : Int) < i5))
          (rd (World.cell? (World.drew w) (Addr.add a (2 : Nat))) fun v6 =>
            isSl v6 fun o7 n8 n9 =>
              runs Try.prog (Instr.buildSlice (31 : Nat) (1 : Nat) #[((0 : Nat), Value.int IntKind.i64 b)]) (World.drew w) fun v10 w11 =>
                isSl v10 fun o12 n13 n14 =>
                  runs Try.prog (Builtin.append_ #[(31 : Nat), (31 : Nat)] (31 : Nat) #[Value.slice o7 n8 n9, Value.slice o12 n13 n14]) w11 fun v15 w16 =>
                    isSl v15 fun o17 n18 n19 =>
                      stC w16 (Addr.add a (2 : Nat)) [Value.slice o17 n18 n19] fun w20 => R (Value.tuple #[Value.int IntKind.i64 (0 : Int), Value.bool false]) w20)
          (rd (World.cell? (World.drew (World.drew w)) (Addr.add a (2 : Nat))) fun v21 =>
            isSl v21 fun o22 n23 n24 =>
              rd (World.cell? (World.drew (World.drew w)) (Addr.add a (1 : Nat))) fun v25 =>
                isK IntKind.i64 v25 fun i26 =>
                  rd o22 fun a27 =>
                    ((0 : Int) ≤ i26 ∧ i26 < (↑n23 : Int)) ∧
                      rd (World.cell? (World.drew (World.drew w)) (Addr.add a27 (Int.toNat i26 * (1 : Nat)))) fun v28 =>
                        isK IntKind.i64 v28 fun i29 =>
                          heldC (World.drew (World.drew (World.drew w))) fun u30 =>
                            (∀ (w31 : World), u30 w31 → Value.pointer (some a) = Value.pointer (some a) ∧ w31 = w31) ∧
                              (∀ (w33 : World), u30 w33 → Value.pointer (some a) = Value.pointer (some a) ∧ w33 = w33) ∧
                                (∀ (w35 : World), u30 w35 → Value.pointer (some (Addr.add a (2 : Nat))) = Value.pointer (some (Addr.add a (2 : Nat))) ∧ w35 = w35) ∧
                                  rd (World.cell? (World.drew (World.drew (World.drew w))) (Addr.add a (2 : Nat))) fun v37 =>
                                    (∀ (w38 : World), u30 w38 → rd (World.cell? w38 (Addr.add a (2 : Nat))) fun v40 => v40 = v37 ∧ w38 = w38) ∧
                                      isSl v37 fun o41 n42 n43 =>
                                        (∀ (w44 : World), u30 w44 → Value.pointer (some a) = Value.pointer (some a) ∧ w44 = w44) ∧
                                          (∀ (w46 : World), u30 w46 → Value.pointer (some a) = Value.pointer (some a) ∧ w46 = w46) ∧
                                            (∀ (w48 : World), u30 w48 → Value.pointer (some (Addr.add a (1 : Nat))) = Value.pointer (some (Addr.add a (1 : Nat))) ∧ w48 = w48) ∧
                                              rd (World.cell? (World.drew (World.drew (World.drew w))) (Addr.add a (1 : Nat))) fun v50 =>
                                                (∀ (w51 : World), u30 w51 → rd (World.cell? w51 (Addr.add a (1 : Nat))) fun v53 => v53 = v50 ∧ w51 = w51) ∧
                                                  isK IntKind.i64 v50 fun i54 =>
                                                    (∀ (w55 : World), u30 w55 → Value.int IntKind.i64 b = Value.int IntKind.i64 b ∧ w55 = w55) ∧
                                                      rd o41 fun a57 =>
                                                        ((0 : Int) ≤ i54 ∧ i54 < (↑n42 : Int)) ∧
                                                          (∀ (w58 : World),
                                                              u30 w58 →
                                                                rd o41 fun a60 =>
                                                                  ((0 : Int) ≤ i54 ∧ i54 < (↑n42 : Int)) ∧
                                                                    Value.pointer (some (Addr.add a60 (Int.toNat i54 * (1 : Nat)))) =
                                                                        Value.pointer (some (Addr.add a57 (Int.toNat i54 * (1 : Nat)))) ∧
                                                                      w58 = w58) ∧
                                                            stC (World.drew (World.drew (World.drew w))) (Addr.add a57 (Int.toNat i54 * (1 : Nat))) [Value.int IntKind.i64 b]
                                                              fun w61 =>
                                                              u30 w61 ∧
                                                                heldC (World.drew w61) fun u62 =>
                                                                  (∀ (w63 : World), u62 w63 → Value.pointer (some a) = Value.pointer (some a) ∧ w63 = w63) ∧
                                                                    (∀ (w65 : World), u62 w65 → Value.pointer (some a) = Value.pointer (some a) ∧ w65 = w65) ∧
                                                                      (∀ (w67 : World), u62 w67 → Value.pointer (some a) = Value.pointer (some a) ∧ w67 = w67) ∧
                                                                        (∀ (w69 : World),
                                                                            u62 w69 →
                                                                              Value.pointer (some (Addr.add a (1 : Nat))) = Value.pointer (some (Addr.add a (1 : Nat))) ∧
                                                                                w69 = w69) ∧
                                                                          (∀ (w71 : World), u62 w71 → Value.pointer (some a) = Value.pointer (some a) ∧ w71 = w71) ∧
                                                                            (∀ (w73 : World), u62 w73 → Value.pointer (some a) = Value.pointer (some a) ∧ w73 = w73) ∧
                                                                              (∀ (w75 : World), u62 w75 → Value.pointer (some a) = Value.pointer (some a) ∧ w75 = w75) ∧
                                                                                rd (World.cell? (World.drew w61) a) fun v77 =>
                                                                                  (∀ (w78 : World), u62 w78 → rd (World.cell? w78 a) fun v80 => v80 = v77 ∧ w78 = w78) ∧
                                                                                    isK IntKind.i64 v77 fun i81 =>
                                                                                      rd (World.cell? (World.drew w61) (Addr.add a (1 : Nat))) fun v82 =>
                                                                                        isK IntKind.i64 v82 fun i83 =>
                                                                                          u62 (World.drew w61) ∧
                                                                                            (∀ (w84 : World),
                                                                                                u62 w84 →
                                                                                                  Value.int IntKind.i64 (IntKind.wrap IntKind.i64 (i83 + (1 : Int))) =
                                                                                                      Value.int IntKind.i64 (IntKind.wrap IntKind.i64 (i83 + (1 : Int))) ∧
                                                                                                    w84 = w84) ∧
                                                                                              rd
                                                                                                (orO
                                                                                                  (binV BinOp.rem
                                                                                                    (Value.int IntKind.i64 (IntKind.wrap IntKind.i64 (i83 + (1 : Int))))
                                                                                                    (Value.int IntKind.i64 i81))
                                                                                                  none)
                                                                                                fun v86 =>
                                                                                                (∀ (w87 : World),
                                                                                                    u62 w87 →
                                                                                                      rd
                                                                                                        (orO
                                                                                                          (binV BinOp.rem
                                                                                                            (Value.int IntKind.i64 (IntKind.wrap IntKind.i64 (i83 + (1 : Int))))
                                                                                                            (Value.int IntKind.i64 i81))
                                                                                                          none)
                                                                                                        fun v89 => v89 = v86 ∧ w87 = w87) ∧
                                                                                                  isK IntKind.i64 v86 fun i90 =>
                                                                                                    (∀ (w91 : World),
                                                                                                        u62 w91 → Value.pointer (some a) = Value.pointer (some a) ∧ w91 = w91) ∧
                                                                                                      (∀ (w93 : World),
                                                                                                          u62 w93 →
                                                                                                            Value.pointer (some (Addr.add a (1 : Nat))) =
                                                                                                                Value.pointer (some (Addr.add a (1 : Nat))) ∧
                                                                                                              w93 = w93) ∧
                                                                                                        stC (World.drew w61) (Addr.add a (1 : Nat)) [Value.int IntKind.i64 i90]
                                                                                                          fun w95 =>
                                                                                                          u62 w95 ∧
                                                                                                            R (Value.tuple #[Value.int IntKind.i64 i29, Value.bool true]) w95)) :
  callV Try.prog 28 [Value.pointer (some a), Value.int IntKind.i64 b] w R :=
  vc_of hm ⟨fun _ => false, fun n => match n with | 1 => .take 0 (.take 1 (.take 2 (.take 3 (.take 4 (.take 5 (.take 6 (.take 7 (.take 8 (.take 9 (.done)))))))))) | 4 => .take 0 (.take 1 (.take 2 (.take 3 (.take 4 (.take 5 (.take 6 (.take 7 (.take 8 (.take 9 (.take 10 (.done))))))))))) | 5 => .take 0 (.take 1 (.take 2 (.take 3 (.take 4 (.take 5 (.take 6 (.take 7 (.take 8 (.take 9 (.one 10 (.done))))))))))) | 6 => .take 0 (.take 1 (.take 2 (.take 3 (.take 6 (.take 7 (.take 8 (.take 9 (.one 4 (.take 5 (.take 10 (.take 11 (.take 12 (.one 13 (.done)))))))))))))) | _ => .done, fun _ => []⟩ Try.func28 ent28 (by kernel_rfl) h

theorem vc29 (a : Addr) (b : Int) (w : World) (R : Value → World → Prop)
  (h : runs Try.prog (Instr.buildSlice (31 : Nat) (0 : Nat) #[]) w fun v0 w1 =>
  isSl v0 fun o2 n3 n4 =>
    rd (World.cell? w1 (Addr.add a (1 : Nat))) fun v5 =>
      isSl v5 fun o6 n7 n8 =>
        runs Try.prog (Builtin.append_ #[(31 : Nat), (31 : Nat)] (31 : Nat) #[Value.slice o2 n3 n4, Value.slice o6 n7 n8]) w1 fun v9 w10 =>
          isSl v9 fun o11 n12 n13 =>
            runs Try.prog (Instr.buildSlice (31 : Nat) (1 : Nat) #[((0 : Nat), Value.int IntKind.i64 b)]) w10 fun v14 w15 =>
              isSl v14 fun o16 n17 n18 =>
                runs Try.prog (Builtin.append_ #[(31 : Nat), (31 : Nat)] (31 : Nat) #[Value.slice o11 n12 n13, Value.slice o16 n17 n18]) w15 fun v19 w20 =>
                  isSl v19 fun o21 n22 n23 =>
                    stC w20 (Addr.add a (1 : Nat)) [Value.slice o21 n22 n23] fun w24 =>
                      rd (World.cell? (World.drew w24) (Addr.add a (1 : Nat))) fun v25 =>
                        isSl v25 fun o26 n27 n28 =>
                          rd (World.cell? (World.drew w24) a) fun v29 =>
                            isK IntKind.i64 v29 fun i30 =>
                              br (decide ((↑n27 : Int) ≤ max i30 (1 : Int))) (R (Value.tuple #[Value.int IntKind.i64 (0 : Int), Value.bool false]) (World.drew w24))
                                (rd (World.cell? (World.drew w24) (Addr.add a (1 : Nat))) fun v31 =>
                                  isSl v31 fun o32 n33 n34 =>
                                    rd o32 fun a35 =>
                                      ((0 : Int) ≤ (0 : Int) ∧ (0 : Int) < (↑n33 : Int)) ∧
                                        rd (World.cell? (World.drew w24) a35) fun v36 =>
                                          isK IntKind.i64 v36 fun i37 =>
                                            rd (World.cell? (World.drew w24) (Addr.add a (1 : Nat))) fun v38 =>
                                              isSl v38 fun o39 n40 n41 =>
                                                runs Try.prog (Instr.sliceAt (31 : Nat) (Value.slice o39 n40 n41) (some (Value.int IntKind.i64 (1 : Int))) none none)
                                                  (World.drew w24) fun v42 w43 =>
                                                  isSl v42 fun o44 n45 n46 =>
                                                    stC w43 (Addr.add a (1 : Nat)) [Value.slice o44 n45 n46] fun w47 =>
                                                      R (Value.tuple #[Value.int IntKind.i64 i37, Value.bool true]) w47)) :
  callV Try.prog 29 [Value.pointer (some a), Value.int IntKind.i64 b] w R :=
  vc_of hm ⟨fun _ => false, fun n => match n with | 2 => .take 0 (.take 1 (.take 2 (.take 3 (.take 4 (.take 5 (.take 6 (.take 7 (.take 8 (.take 9 (.take 10 (.done))))))))))) | _ => .done, fun _ => []⟩ Try.func29 ent29 (by kernel_rfl) h

theorem vc30 (a : Addr) (w : World) (R : Value → World → Prop)
  (h : rd (World.cell? w (Addr.add a (2 : Nat))) fun v0 => isSl v0 fun o1 n2 n3 => R (Value.int IntKind.i64 (↑n2 : Int)) w) :
  callV Try.prog 30 [Value.pointer (some a)] w R :=
  vc_of hm noHints Try.func30 ent30 (by kernel_rfl) h

theorem vc31 (a : Addr) (b : Int) (w : World) (R : Value → World → Prop)
  (h : br (decide (b < (0 : Int))) (R (Value.tuple #[Value.int IntKind.i64 (0 : Int), Value.bool false]) w)
  (rd (World.cell? w (Addr.add a (2 : Nat))) fun v0 =>
    isSl v0 fun o1 n2 n3 =>
      br (decide ((↑n2 : Int) ≤ b)) (R (Value.tuple #[Value.int IntKind.i64 (0 : Int), Value.bool false]) w)
        (rd (World.cell? (World.drew w) (Addr.add a (2 : Nat))) fun v4 =>
          isSl v4 fun o5 n6 n7 =>
            rd (World.cell? (World.drew w) (Addr.add a (1 : Nat))) fun v8 =>
              isK IntKind.i64 v8 fun i9 =>
                rd (World.cell? (World.drew w) (Addr.add a (2 : Nat))) fun v10 =>
                  isSl v10 fun o11 n12 n13 =>
                    rd (orO (binV BinOp.rem (Value.int IntKind.i64 (IntKind.wrap IntKind.i64 (i9 + b))) (Value.int IntKind.i64 (↑n12 : Int))) none) fun v14 =>
                      isK IntKind.i64 v14 fun i15 =>
                        rd o5 fun a16 =>
                          ((0 : Int) ≤ i15 ∧ i15 < (↑n6 : Int)) ∧
                            rd (World.cell? (World.drew w) (Addr.add a16 (Int.toNat i15 * (1 : Nat)))) fun v17 =>
                              isK IntKind.i64 v17 fun i18 => R (Value.tuple #[Value.int IntKind.i64 i18, Value.bool true]) (World.drew w)))) :
  callV Try.prog 31 [Value.pointer (some a), Value.int IntKind.i64 b] w R :=
  vc_of hm ⟨fun _ => false, fun n => match n with | 3 => .take 0 (.take 1 (.take 2 (.take 3 (.take 4 (.take 5 (.take 6 (.take 7 (.take 8 (.take 9 (.take 10 (.take 11 (.take 12 (.take 13 (.take 14 (.take 15 (.take 16 (.take 17 (.take 18 (.take 19 (.done)))))))))))))))))))) | _ => .done, fun _ => []⟩ Try.func31 ent31 (by kernel_rfl) h

theorem vc33 (a : Int) (w : World) (R : Value → World → Prop)
  (h : allocC w (Obj.map #[] (0 : Nat)) fun n0 w1 =>
  allocC w1 (Obj.cells #[Value.int IntKind.i64 (max a (1 : Int)), Value.int IntKind.i64 (0 : Int), Value.map (some n0)] (93 : Nat)) fun n2 w3 =>
    R (Value.pointer (some { block := n2, off := (0 : Nat) : Addr })) w3) :
  callV Try.prog 33 [Value.int IntKind.i64 a] w R :=
  vc_of hm noHints Try.func33 ent33 (by kernel_rfl) h

theorem vc34 (a : Addr) (b : List Value) (w : World) (R : Value → World → Prop)
  (h : rd (gd (List.length b == (2 : Nat))) fun _x =>
  allocC w (Obj.cells (List.toArray b) (58 : Nat)) fun n0 w1 =>
    heldC (World.drew w1) fun u2 =>
      (∀ (w3 : World), u2 w3 → Value.pointer (some a) = Value.pointer (some a) ∧ w3 = w3) ∧
        (∀ (w5 : World), u2 w5 → Value.pointer (some a) = Value.pointer (some a) ∧ w5 = w5) ∧
          (∀ (w7 : World), u2 w7 → Value.pointer (some (Addr.add a (2 : Nat))) = Value.pointer (some (Addr.add a (2 : Nat))) ∧ w7 = w7) ∧
            rd (World.cell? (World.drew w1) (Addr.add a (2 : Nat))) fun v9 =>
              (∀ (w10 : World), u2 w10 → rd (World.cell? w10 (Addr.add a (2 : Nat))) fun v12 => v12 = v9 ∧ w10 = w10) ∧
                runs Try.prog (Builtin.len_ #[(91 : Nat)] (3 : Nat) #[v9]) (World.drew w1) fun v13 w14 =>
                  (∀ (w15 : World), u2 w15 → runs Try.prog (Builtin.len_ #[(91 : Nat)] (3 : Nat) #[v9]) w15 fun v17 w18 => v17 = v13 ∧ w18 = w15) ∧
                    isK IntKind.i64 v13 fun i19 =>
                      (∀ (w20 : World), u2 w20 → Value.pointer (some a) = Value.pointer (some a) ∧ w20 = w20) ∧
                        (∀ (w22 : World), u2 w22 → Value.pointer (some a) = Value.pointer (some a) ∧ w22 = w22) ∧
                          (∀ (w24 : World), u2 w24 → Value.pointer (some a) = Value.pointer (some a) ∧ w24 = w24) ∧
                            rd (World.cell? (World.drew w1) a) fun v26 =>
                              (∀ (w27 : World), u2 w27 → rd (World.cell? w27 a) fun v29 => v29 = v26 ∧ w27 = w27) ∧
                                isK IntKind.i64 v26 fun i30 =>
                                  (∀ (w31 : World), u2 w31 → Value.bool (decide (i30 ≤ i19)) = Value.bool (decide (i30 ≤ i19)) ∧ w31 = w31) ∧
                                    br (decide (i30 ≤ i19)) (R (Value.tuple #[Value.int IntKind.i64 (0 : Int), Value.int IntKind.i64 (5 : Int)]) (World.drew w1))
                                      (rd (World.cell? (World.drew w1) (Addr.add a (1 : Nat))) fun v33 =>
                                        isK IntKind.i64 v33 fun i34 =>
                                          stC (World.drew w1) (Addr.add a (1 : Nat)) [Value.int IntKind.i64 (IntKind.wrap IntKind.i64 (i34 + (1 : Int)))] fun w35 =>
                                            heldC (World.drew w35) fun u36 =>
                                              (∀ (w37 : World), u36 w37 → Value.pointer (some a) = Value.pointer (some a) ∧ w37 = w37) ∧
                                                (∀ (w39 : World), u36 w39 → Value.pointer (some a) = Value.pointer (some a) ∧ w39 = w39) ∧
                                                  (∀ (w41 : World),
                                                      u36 w41 → Value.pointer (some (Addr.add a (2 : Nat))) = Value.pointer (some (Addr.add a (2 : Nat))) ∧ w41 = w41) ∧
                                                    rd (World.cell? (World.drew w35) (Addr.add a (2 : Nat))) fun v43 =>
                                                      (∀ (w44 : World), u36 w44 → rd (World.cell? w44 (Addr.add a (2 : Nat))) fun v46 => v46 = v43 ∧ w44 = w44) ∧
                                                        (∀ (w47 : World), u36 w47 → Value.pointer (some a) = Value.pointer (some a) ∧ w47 = w47) ∧
                                                          (∀ (w49 : World), u36 w49 → Value.pointer (some a) = Value.pointer (some a) ∧ w49 = w49) ∧
                                                            (∀ (w51 : World),
                                                                u36 w51 → Value.pointer (some (Addr.add a (1 : Nat))) = Value.pointer (some (Addr.add a (1 : Nat))) ∧ w51 = w51) ∧
                                                              rd (World.cell? (World.drew w35) (Addr.add a (1 : Nat))) fun v53 =>
                                                                (∀ (w54 : World), u36 w54 → rd (World.cell? w54 (Addr.add a (1 : Nat))) fun v56 => v56 = v53 ∧ w54 = w54) ∧
                                                                  isK IntKind.i64 v53 fun i57 =>
                                                                    rd (cellsAt (World.drew w35) { block := n0, off := (0 : Nat) : Addr } (2 : Nat)) fun l58 =>
                                                                      (∀ (w59 : World),
                                                                          u36 w59 →
                                                                            rd (cellsAt w59 { block := n0, off := (0 : Nat) : Addr } (2 : Nat)) fun l61 =>
                                                                              Value.agg (List.toArray l61) = Value.agg (List.toArray l58) ∧ w59 = w59) ∧
                                                                        runsU Try.prog (Instr.mapUpdate (91 : Nat) v43 (Value.int IntKind.i64 i57) (Value.agg (List.toArray l58)))
                                                                          (World.drew w35) fun w62 =>
                                                                          u36 w62 ∧
                                                                            rd (World.cell? w62 (Addr.add a (1 : Nat))) fun v63 =>
                                                                              isK IntKind.i64 v63 fun i64 =>
                                                                                R (Value.tuple #[Value.int IntKind.i64 i64, Value.int IntKind.i64 (0 : Int)]) w62)) :
  callV Try.prog 34 [Value.pointer (some a), Value.agg (List.toArray b)] w R :=
  vc_of hm ⟨fun _ => false, fun n => match n with | 1 => .take 0 (.take 1 (.take 2 (.take 3 (.take 4 (.take 5 (.take 6 (.take 7 (.take 8 (.take 9 (.done)))))))))) | 4 => .take 0 (.take 1 (.take 2 (.take 3 (.take 4 (.take 5 (.take 6 (.take 7 (.take 8 (.one 9 (.done)))))))))) | _ => .done, fun _ => []⟩ Try.func34 ent34 (by kernel_rfl) h

theorem vc35 (a : Addr) (w : World) (R : Value → World → Prop)
  (h : rd (World.cell? w (Addr.add a (2 : Nat))) fun v0 =>
  runs Try.prog (Builtin.len_ #[(91 : Nat)] (3 : Nat) #[v0]) w fun v1 w2 => isK IntKind.i64 v1 fun i3 => R (Value.int IntKind.i64 i3) w2) :
  callV Try.prog 35 [Value.pointer (some a)] w R :=
  vc_of hm noHints Try.func35 ent35 (by kernel_rfl) h

theorem vc41 (a : Addr) (b : Int) (w : World) (R : Value → World → Prop)
  (h : rd (World.cell? w (Addr.add a (2 : Nat))) fun v0 =>
  runs Try.prog (Instr.lookup (86 : Nat) v0 (Value.int IntKind.i64 b) true) w fun v1 w2 =>
    isTup v1 fun l3 =>
      rd l3[(0 : Nat)]? fun v4 => isStr v4 fun x5 => isTup v1 fun l6 => rd l6[(1 : Nat)]? fun v7 => isB v7 fun t8 => R (Value.tuple #[Value.string x5, Value.bool t8]) w2) :
  callV Try.prog 41 [Value.pointer (some a), Value.int IntKind.i64 b] w R :=
  vc_of hm noHints Try.func41 ent41 (by kernel_rfl) h

end Go.Proofs.Ytlhgibiffekpfaa
