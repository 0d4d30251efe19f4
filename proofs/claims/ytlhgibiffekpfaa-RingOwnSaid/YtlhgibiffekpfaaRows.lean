/-
  No cell of these rows narrows 'for every input' (looked for: loops, veiled, ifaces, maps, wideKeys, modest, calm, conditions, laid).
  DERIVED. THE GIVEN ROWS OF THIS SEAT. 8 by the template 'for every input the law returns true; each argument reads behind the call as it read before'; 0 by the template 'total and deterministic' (their statements: YtlhgibiffekpfaaTotals.lean).
  GIVEN WITH THE SEED: the statements are not yours to turn. If you find one false, say at which input.
  Laid BY PROGRAM, IN A SANDBOX (cutbox-rows.mjs): the forced cells as the released guide's own fill.sh prints them over the translation 22408c10edef6de1… (all of the seat's roots in one cut). By AI agents, Wed Nov 11 2026. No macro, syntax, notation, axiom, sorry.
-/
import Derived.Test.YtlhgibiffekpfaaChecked
import GoSem.Claim
import GoSem.ClaimJoined
import GoSem.ClaimMapViews
import Derived.JoinedTies
import Derived.KernelRfl
namespace Go.Proofs.Ytlhgibiffekpfaa
/- THE CELL 'sum', in the pinned program and in every row, IS THE sha256 OF THE DUMP (.gsa) THAT YtlhgibiffekpfaaProg.lean LOADS. Nothing in Lean hashes anything: it is a label: what it is worth is what the hold of that sum in a sandbox is worth. -/
noncomputable def Try.pinned : Pinned := { name := "ytlhgibiffekpfaa", sum := "22408c10edef6de1048846f8650b84582a9f3a1b000641c5840b85f9c0d04770", checked := Try.checked }
namespace Rows
def none {H : Type} : Left H := { results := [], args := [] }

/-- 'embrasurelaw02.RingLast': WHATEVER THE INPUT: true; the input reads as it did. -/
def ringLastSpec : ChangeSpec := { name := "ringLast", fn := fun _ => fun
  | [d1, d2] => { results := [.lit (.bool true)], args := [d1, d2] }
  | _ => none }
def ringLastRow : OpenClaim := { program := "ytlhgibiffekpfaa", sum := "22408c10edef6de1048846f8650b84582a9f3a1b000641c5840b85f9c0d04770", func := "embrasure/embrasurelaw02.RingLast", spec := "ringLast", apart := false }
def RingLastSaid : Prop := ringLastRow.holds Try.pinned (OpenSpec.ofChange ringLastSpec)

/-- ITS FALSE NEIGHBOUR: 'it returns false'. Refute it at one input. -/
def ringLastWrong : ChangeSpec := { name := "ringLast", fn := fun _ => fun
  | [d1, d2] => { results := [.lit (.bool false)], args := [d1, d2] }
  | _ => none }
def RingLastWrongFalsely : Prop := ringLastRow.holds Try.pinned (OpenSpec.ofChange ringLastWrong)

/-- 'embrasurelaw02.RingTableOnce': WHATEVER THE INPUT: true; the input reads as it did. -/
def ringTableOnceSpec : ChangeSpec := { name := "ringTableOnce", fn := fun _ => fun
  | [d1, d2] => { results := [.lit (.bool true)], args := [d1, d2] }
  | _ => none }
def ringTableOnceRow : OpenClaim := { program := "ytlhgibiffekpfaa", sum := "22408c10edef6de1048846f8650b84582a9f3a1b000641c5840b85f9c0d04770", func := "embrasure/embrasurelaw02.RingTableOnce", spec := "ringTableOnce", apart := false }
def RingTableOnceSaid : Prop := ringTableOnceRow.holds Try.pinned (OpenSpec.ofChange ringTableOnceSpec)

/-- ITS FALSE NEIGHBOUR: 'it returns false'. Refute it at one input. -/
def ringTableOnceWrong : ChangeSpec := { name := "ringTableOnce", fn := fun _ => fun
  | [d1, d2] => { results := [.lit (.bool false)], args := [d1, d2] }
  | _ => none }
def RingTableOnceWrongFalsely : Prop := ringTableOnceRow.holds Try.pinned (OpenSpec.ofChange ringTableOnceWrong)

/-- 'embrasurelaw02.RingTableRoom': WHATEVER THE INPUT: true; the input reads as it did. -/
def ringTableRoomSpec : ChangeSpec := { name := "ringTableRoom", fn := fun _ => fun
  | [d1, d2] => { results := [.lit (.bool true)], args := [d1, d2] }
  | _ => none }
def ringTableRoomRow : OpenClaim := { program := "ytlhgibiffekpfaa", sum := "22408c10edef6de1048846f8650b84582a9f3a1b000641c5840b85f9c0d04770", func := "embrasure/embrasurelaw02.RingTableRoom", spec := "ringTableRoom", apart := false }
def RingTableRoomSaid : Prop := ringTableRoomRow.holds Try.pinned (OpenSpec.ofChange ringTableRoomSpec)

/-- ITS FALSE NEIGHBOUR: 'it returns false'. Refute it at one input. -/
def ringTableRoomWrong : ChangeSpec := { name := "ringTableRoom", fn := fun _ => fun
  | [d1, d2] => { results := [.lit (.bool false)], args := [d1, d2] }
  | _ => none }
def RingTableRoomWrongFalsely : Prop := ringTableRoomRow.holds Try.pinned (OpenSpec.ofChange ringTableRoomWrong)

/-- 'embrasurelaw02.RingPlays': WHATEVER THE INPUT: true; the input reads as it did. -/
def ringPlaysSpec : ChangeSpec := { name := "ringPlays", fn := fun _ => fun
  | [d1, d2] => { results := [.lit (.bool true)], args := [d1, d2] }
  | _ => none }
def ringPlaysRow : OpenClaim := { program := "ytlhgibiffekpfaa", sum := "22408c10edef6de1048846f8650b84582a9f3a1b000641c5840b85f9c0d04770", func := "embrasure/embrasurelaw02.RingPlays", spec := "ringPlays", unfollowed := true, recurses := true, apart := false }
def RingPlaysSaid : Prop := ringPlaysRow.holds Try.pinned (OpenSpec.ofChange ringPlaysSpec)

/-- ITS FALSE NEIGHBOUR: 'it returns false'. Refute it at one input. -/
def ringPlaysWrong : ChangeSpec := { name := "ringPlays", fn := fun _ => fun
  | [d1, d2] => { results := [.lit (.bool false)], args := [d1, d2] }
  | _ => none }
def RingPlaysWrongFalsely : Prop := ringPlaysRow.holds Try.pinned (OpenSpec.ofChange ringPlaysWrong)

/-- 'embrasurelaw02.RingOwn': WHATEVER THE INPUT: true; the input reads as it did. -/
def ringOwnSpec : ChangeSpec := { name := "ringOwn", fn := fun _ => fun
  | [d] => { results := [.lit (.bool true)], args := [d] }
  | _ => none }
def ringOwnRow : OpenClaim := { program := "ytlhgibiffekpfaa", sum := "22408c10edef6de1048846f8650b84582a9f3a1b000641c5840b85f9c0d04770", func := "embrasure/embrasurelaw02.RingOwn", spec := "ringOwn", unfollowed := true, recurses := true, apart := false }
def RingOwnSaid : Prop := ringOwnRow.holds Try.pinned (OpenSpec.ofChange ringOwnSpec)

/-- ITS FALSE NEIGHBOUR: 'it returns false'. Refute it at one input. -/
def ringOwnWrong : ChangeSpec := { name := "ringOwn", fn := fun _ => fun
  | [d] => { results := [.lit (.bool false)], args := [d] }
  | _ => none }
def RingOwnWrongFalsely : Prop := ringOwnRow.holds Try.pinned (OpenSpec.ofChange ringOwnWrong)

/-- 'embrasurelaw02.RingTableOrder': WHATEVER THE INPUT: true; the input reads as it did. -/
def ringTableOrderSpec : ChangeSpec := { name := "ringTableOrder", fn := fun _ => fun
  | [d1, d2] => { results := [.lit (.bool true)], args := [d1, d2] }
  | _ => none }
def ringTableOrderRow : OpenClaim := { program := "ytlhgibiffekpfaa", sum := "22408c10edef6de1048846f8650b84582a9f3a1b000641c5840b85f9c0d04770", func := "embrasure/embrasurelaw02.RingTableOrder", spec := "ringTableOrder", unfollowed := true, recurses := true, apart := false }
def RingTableOrderSaid : Prop := ringTableOrderRow.holds Try.pinned (OpenSpec.ofChange ringTableOrderSpec)

/-- ITS FALSE NEIGHBOUR: 'it returns false'. Refute it at one input. -/
def ringTableOrderWrong : ChangeSpec := { name := "ringTableOrder", fn := fun _ => fun
  | [d1, d2] => { results := [.lit (.bool false)], args := [d1, d2] }
  | _ => none }
def RingTableOrderWrongFalsely : Prop := ringTableOrderRow.holds Try.pinned (OpenSpec.ofChange ringTableOrderWrong)

/-- 'embrasurelaw02.RingTablePlays': WHATEVER THE INPUT: true; the input reads as it did. -/
def ringTablePlaysSpec : ChangeSpec := { name := "ringTablePlays", fn := fun _ => fun
  | [d1, d2] => { results := [.lit (.bool true)], args := [d1, d2] }
  | _ => none }
def ringTablePlaysRow : OpenClaim := { program := "ytlhgibiffekpfaa", sum := "22408c10edef6de1048846f8650b84582a9f3a1b000641c5840b85f9c0d04770", func := "embrasure/embrasurelaw02.RingTablePlays", spec := "ringTablePlays", unfollowed := true, recurses := true, apart := false }
def RingTablePlaysSaid : Prop := ringTablePlaysRow.holds Try.pinned (OpenSpec.ofChange ringTablePlaysSpec)

/-- ITS FALSE NEIGHBOUR: 'it returns false'. Refute it at one input. -/
def ringTablePlaysWrong : ChangeSpec := { name := "ringTablePlays", fn := fun _ => fun
  | [d1, d2] => { results := [.lit (.bool false)], args := [d1, d2] }
  | _ => none }
def RingTablePlaysWrongFalsely : Prop := ringTablePlaysRow.holds Try.pinned (OpenSpec.ofChange ringTablePlaysWrong)

/-- 'embrasurelaw02.RingStops': WHATEVER THE INPUT: true; the input reads as it did. -/
def ringStopsSpec : ChangeSpec := { name := "ringStops", fn := fun _ => fun
  | [d1, d2] => { results := [.lit (.bool true)], args := [d1, d2] }
  | _ => none }
def ringStopsRow : OpenClaim := { program := "ytlhgibiffekpfaa", sum := "22408c10edef6de1048846f8650b84582a9f3a1b000641c5840b85f9c0d04770", func := "embrasure/embrasurelaw02.RingStops", spec := "ringStops", unfollowed := true, recurses := true, apart := false }
def RingStopsSaid : Prop := ringStopsRow.holds Try.pinned (OpenSpec.ofChange ringStopsSpec)

/-- ITS FALSE NEIGHBOUR: 'it returns false'. Refute it at one input. -/
def ringStopsWrong : ChangeSpec := { name := "ringStops", fn := fun _ => fun
  | [d1, d2] => { results := [.lit (.bool false)], args := [d1, d2] }
  | _ => none }
def RingStopsWrongFalsely : Prop := ringStopsRow.holds Try.pinned (OpenSpec.ofChange ringStopsWrong)

/- THE SECOND FORM. 'bulk': how many values and letters a reading holds, each counted each time it is reached (what is shared counts as often as it is met; a slice's spare places count too). A statement '..UptoSaid' is the law's where the arguments, and the package variables that the reading takes, are together of bulk at most 1048576: NARROWER than '..Said'. Prove '..Said' where nothing that the law and all that it calls make is longer than what came in: it says more and counts as full. Else prove '..UptoSaid'. A law counts once. -/
mutual
def uptoBulk {H : Type} : DataW H → Nat
  | .lit (.string bytes) => bytes.length + 1
  | .lit _ => 1
  | .nil => 1
  | .ptr d => uptoBulk d + 1
  | .slice elems spare => uptoBulkAll elems + uptoBulkAll spare + 1
  | .agg parts => uptoBulkAll parts + 1
  | .iface _ d => uptoBulk d + 1
  | .map entries => uptoBulkEntries entries + 1
  | .held _ => 1
def uptoBulkAll {H : Type} : List (DataW H) → Nat
  | [] => 0
  | d :: r => uptoBulk d + uptoBulkAll r
def uptoBulkEntries {H : Type} : List (Lit × DataW H) → Nat
  | [] => 0
  | x :: r => uptoBulkEntry x + uptoBulkEntries r
def uptoBulkEntry {H : Type} : Lit × DataW H → Nat
  | (.string bytes, d) => bytes.length + uptoBulk d + 1
  | (_, d) => uptoBulk d + 1
 end
def uptoSmall : (H : Type) → List (DataW H) → Bool := fun _ ds => decide (uptoBulkAll ds ≤ 1048576)
def OpenSpec.upto (s : _root_.Go.ChangeSpec) : _root_.Go.OpenSpec := { _root_.Go.OpenSpec.ofChange s with cond := some uptoSmall }

/-- 'embrasurelaw02.RingLast', WHERE WHAT IT READS IS OF BULK AT MOST 1048576: true; the input reads as it did. -/
def ringLastUptoRow : OpenClaim := { program := "ytlhgibiffekpfaa", sum := "22408c10edef6de1048846f8650b84582a9f3a1b000641c5840b85f9c0d04770", func := "embrasure/embrasurelaw02.RingLast", spec := "ringLast", apart := false, narrowed := true }
def RingLastUptoSaid : Prop := ringLastUptoRow.holds Try.pinned (OpenSpec.upto ringLastSpec)

/-- 'embrasurelaw02.RingTableOnce', WHERE WHAT IT READS IS OF BULK AT MOST 1048576: true; the input reads as it did. -/
def ringTableOnceUptoRow : OpenClaim := { program := "ytlhgibiffekpfaa", sum := "22408c10edef6de1048846f8650b84582a9f3a1b000641c5840b85f9c0d04770", func := "embrasure/embrasurelaw02.RingTableOnce", spec := "ringTableOnce", apart := false, narrowed := true }
def RingTableOnceUptoSaid : Prop := ringTableOnceUptoRow.holds Try.pinned (OpenSpec.upto ringTableOnceSpec)

/-- 'embrasurelaw02.RingTableRoom', WHERE WHAT IT READS IS OF BULK AT MOST 1048576: true; the input reads as it did. -/
def ringTableRoomUptoRow : OpenClaim := { program := "ytlhgibiffekpfaa", sum := "22408c10edef6de1048846f8650b84582a9f3a1b000641c5840b85f9c0d04770", func := "embrasure/embrasurelaw02.RingTableRoom", spec := "ringTableRoom", apart := false, narrowed := true }
def RingTableRoomUptoSaid : Prop := ringTableRoomUptoRow.holds Try.pinned (OpenSpec.upto ringTableRoomSpec)

/-- 'embrasurelaw02.RingPlays', WHERE WHAT IT READS IS OF BULK AT MOST 1048576: true; the input reads as it did. -/
def ringPlaysUptoRow : OpenClaim := { program := "ytlhgibiffekpfaa", sum := "22408c10edef6de1048846f8650b84582a9f3a1b000641c5840b85f9c0d04770", func := "embrasure/embrasurelaw02.RingPlays", spec := "ringPlays", unfollowed := true, recurses := true, apart := false, narrowed := true }
def RingPlaysUptoSaid : Prop := ringPlaysUptoRow.holds Try.pinned (OpenSpec.upto ringPlaysSpec)

/-- 'embrasurelaw02.RingOwn', WHERE WHAT IT READS IS OF BULK AT MOST 1048576: true; the input reads as it did. -/
def ringOwnUptoRow : OpenClaim := { program := "ytlhgibiffekpfaa", sum := "22408c10edef6de1048846f8650b84582a9f3a1b000641c5840b85f9c0d04770", func := "embrasure/embrasurelaw02.RingOwn", spec := "ringOwn", unfollowed := true, recurses := true, apart := false, narrowed := true }
def RingOwnUptoSaid : Prop := ringOwnUptoRow.holds Try.pinned (OpenSpec.upto ringOwnSpec)

/-- 'embrasurelaw02.RingTableOrder', WHERE WHAT IT READS IS OF BULK AT MOST 1048576: true; the input reads as it did. -/
def ringTableOrderUptoRow : OpenClaim := { program := "ytlhgibiffekpfaa", sum := "22408c10edef6de1048846f8650b84582a9f3a1b000641c5840b85f9c0d04770", func := "embrasure/embrasurelaw02.RingTableOrder", spec := "ringTableOrder", unfollowed := true, recurses := true, apart := false, narrowed := true }
def RingTableOrderUptoSaid : Prop := ringTableOrderUptoRow.holds Try.pinned (OpenSpec.upto ringTableOrderSpec)

/-- 'embrasurelaw02.RingTablePlays', WHERE WHAT IT READS IS OF BULK AT MOST 1048576: true; the input reads as it did. -/
def ringTablePlaysUptoRow : OpenClaim := { program := "ytlhgibiffekpfaa", sum := "22408c10edef6de1048846f8650b84582a9f3a1b000641c5840b85f9c0d04770", func := "embrasure/embrasurelaw02.RingTablePlays", spec := "ringTablePlays", unfollowed := true, recurses := true, apart := false, narrowed := true }
def RingTablePlaysUptoSaid : Prop := ringTablePlaysUptoRow.holds Try.pinned (OpenSpec.upto ringTablePlaysSpec)

/-- 'embrasurelaw02.RingStops', WHERE WHAT IT READS IS OF BULK AT MOST 1048576: true; the input reads as it did. -/
def ringStopsUptoRow : OpenClaim := { program := "ytlhgibiffekpfaa", sum := "22408c10edef6de1048846f8650b84582a9f3a1b000641c5840b85f9c0d04770", func := "embrasure/embrasurelaw02.RingStops", spec := "ringStops", unfollowed := true, recurses := true, apart := false, narrowed := true }
def RingStopsUptoSaid : Prop := ringStopsUptoRow.holds Try.pinned (OpenSpec.upto ringStopsSpec)

end Rows
end Go.Proofs.Ytlhgibiffekpfaa
