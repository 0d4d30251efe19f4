/-
  No cell of these rows narrows 'for every input' (looked for: loops, veiled, ifaces, maps, wideKeys, modest, calm, conditions, laid).
  DERIVED. THE GIVEN ROWS OF THIS SEAT. 9 by the template 'for every input the law returns true; each argument reads behind the call as it read before'; 0 by the template 'total and deterministic' (their statements: YtfekkdmnboccfaaTotals.lean).
  GIVEN WITH THE SEED: the statements are not yours to turn. If you find one false, say at which input.
  Laid BY PROGRAM, IN A SANDBOX (cutbox-rows.mjs): the forced cells as the released guide's own fill.sh prints them over the translation 466a9739b2fbd4b4… (all of the seat's roots in one cut). By AI agents, Wed Nov 11 2026. No macro, syntax, notation, axiom, sorry.
-/
import Derived.Test.YtfekkdmnboccfaaChecked
import GoSem.Claim
import GoSem.ClaimJoined
import GoSem.ClaimMapViews
import Derived.JoinedTies
import Derived.KernelRfl
namespace Go.Proofs.Ytfekkdmnboccfaa
/- THE CELL 'sum', in the pinned program and in every row, IS THE sha256 OF THE DUMP (.gsa) THAT YtfekkdmnboccfaaProg.lean LOADS. Nothing in Lean hashes anything: it is a label: what it is worth is what the hold of that sum in a sandbox is worth. -/
noncomputable def Try.pinned : Pinned := { name := "ytfekkdmnboccfaa", sum := "466a9739b2fbd4b4b1731d9032adc26a109ff79a74a2b3f6b2ef640092def7e4", checked := Try.checked }
namespace Rows
def none {H : Type} : Left H := { results := [], args := [] }

/-- 'embrasurelaw05.MessageWrites': WHATEVER THE INPUT: true; the input reads as it did. -/
def messageWritesSpec : ChangeSpec := { name := "messageWrites", fn := fun _ => fun
  | [d] => { results := [.lit (.bool true)], args := [d] }
  | _ => none }
def messageWritesRow : OpenClaim := { program := "ytfekkdmnboccfaa", sum := "466a9739b2fbd4b4b1731d9032adc26a109ff79a74a2b3f6b2ef640092def7e4", func := "embrasure/embrasurelaw05.MessageWrites", spec := "messageWrites", unfollowed := true, recurses := true, apart := false }
def MessageWritesSaid : Prop := messageWritesRow.holds Try.pinned (OpenSpec.ofChange messageWritesSpec)

/-- ITS FALSE NEIGHBOUR: 'it returns false'. Refute it at one input. -/
def messageWritesWrong : ChangeSpec := { name := "messageWrites", fn := fun _ => fun
  | [d] => { results := [.lit (.bool false)], args := [d] }
  | _ => none }
def MessageWritesWrongFalsely : Prop := messageWritesRow.holds Try.pinned (OpenSpec.ofChange messageWritesWrong)

/-- 'embrasurelaw05.MessageReads': WHATEVER THE INPUT: true; the input reads as it did. -/
def messageReadsSpec : ChangeSpec := { name := "messageReads", fn := fun _ => fun
  | [d] => { results := [.lit (.bool true)], args := [d] }
  | _ => none }
def messageReadsRow : OpenClaim := { program := "ytfekkdmnboccfaa", sum := "466a9739b2fbd4b4b1731d9032adc26a109ff79a74a2b3f6b2ef640092def7e4", func := "embrasure/embrasurelaw05.MessageReads", spec := "messageReads", unfollowed := true, recurses := true, apart := false }
def MessageReadsSaid : Prop := messageReadsRow.holds Try.pinned (OpenSpec.ofChange messageReadsSpec)

/-- ITS FALSE NEIGHBOUR: 'it returns false'. Refute it at one input. -/
def messageReadsWrong : ChangeSpec := { name := "messageReads", fn := fun _ => fun
  | [d] => { results := [.lit (.bool false)], args := [d] }
  | _ => none }
def MessageReadsWrongFalsely : Prop := messageReadsRow.holds Try.pinned (OpenSpec.ofChange messageReadsWrong)

/-- 'embrasurelaw05.MessageBack': WHATEVER THE INPUT: true; the input reads as it did. -/
def messageBackSpec : ChangeSpec := { name := "messageBack", fn := fun _ => fun
  | [d1, d2] => { results := [.lit (.bool true)], args := [d1, d2] }
  | _ => none }
def messageBackRow : OpenClaim := { program := "ytfekkdmnboccfaa", sum := "466a9739b2fbd4b4b1731d9032adc26a109ff79a74a2b3f6b2ef640092def7e4", func := "embrasure/embrasurelaw05.MessageBack", spec := "messageBack", unfollowed := true, recurses := true, apart := false }
def MessageBackSaid : Prop := messageBackRow.holds Try.pinned (OpenSpec.ofChange messageBackSpec)

/-- ITS FALSE NEIGHBOUR: 'it returns false'. Refute it at one input. -/
def messageBackWrong : ChangeSpec := { name := "messageBack", fn := fun _ => fun
  | [d1, d2] => { results := [.lit (.bool false)], args := [d1, d2] }
  | _ => none }
def MessageBackWrongFalsely : Prop := messageBackRow.holds Try.pinned (OpenSpec.ofChange messageBackWrong)

/-- 'embrasurelaw05.MessageCuts': WHATEVER THE INPUT: true; the input reads as it did. -/
def messageCutsSpec : ChangeSpec := { name := "messageCuts", fn := fun _ => fun
  | [d1, d2, d3] => { results := [.lit (.bool true)], args := [d1, d2, d3] }
  | _ => none }
def messageCutsRow : OpenClaim := { program := "ytfekkdmnboccfaa", sum := "466a9739b2fbd4b4b1731d9032adc26a109ff79a74a2b3f6b2ef640092def7e4", func := "embrasure/embrasurelaw05.MessageCuts", spec := "messageCuts", unfollowed := true, recurses := true, apart := false }
def MessageCutsSaid : Prop := messageCutsRow.holds Try.pinned (OpenSpec.ofChange messageCutsSpec)

/-- ITS FALSE NEIGHBOUR: 'it returns false'. Refute it at one input. -/
def messageCutsWrong : ChangeSpec := { name := "messageCuts", fn := fun _ => fun
  | [d1, d2, d3] => { results := [.lit (.bool false)], args := [d1, d2, d3] }
  | _ => none }
def MessageCutsWrongFalsely : Prop := messageCutsRow.holds Try.pinned (OpenSpec.ofChange messageCutsWrong)

/-- 'embrasurelaw05.MessageFields': WHATEVER THE INPUT: true; the input reads as it did. -/
def messageFieldsSpec : ChangeSpec := { name := "messageFields", fn := fun _ => fun
  | [d1, d2, d3] => { results := [.lit (.bool true)], args := [d1, d2, d3] }
  | _ => none }
def messageFieldsRow : OpenClaim := { program := "ytfekkdmnboccfaa", sum := "466a9739b2fbd4b4b1731d9032adc26a109ff79a74a2b3f6b2ef640092def7e4", func := "embrasure/embrasurelaw05.MessageFields", spec := "messageFields", unfollowed := true, recurses := true, apart := false }
def MessageFieldsSaid : Prop := messageFieldsRow.holds Try.pinned (OpenSpec.ofChange messageFieldsSpec)

/-- ITS FALSE NEIGHBOUR: 'it returns false'. Refute it at one input. -/
def messageFieldsWrong : ChangeSpec := { name := "messageFields", fn := fun _ => fun
  | [d1, d2, d3] => { results := [.lit (.bool false)], args := [d1, d2, d3] }
  | _ => none }
def MessageFieldsWrongFalsely : Prop := messageFieldsRow.holds Try.pinned (OpenSpec.ofChange messageFieldsWrong)

/-- 'embrasurelaw05.MessageUnlike': WHATEVER THE INPUT: true; the input reads as it did. -/
def messageUnlikeSpec : ChangeSpec := { name := "messageUnlike", fn := fun _ => fun
  | [d1, d2] => { results := [.lit (.bool true)], args := [d1, d2] }
  | _ => none }
def messageUnlikeRow : OpenClaim := { program := "ytfekkdmnboccfaa", sum := "466a9739b2fbd4b4b1731d9032adc26a109ff79a74a2b3f6b2ef640092def7e4", func := "embrasure/embrasurelaw05.MessageUnlike", spec := "messageUnlike", unfollowed := true, recurses := true, apart := false }
def MessageUnlikeSaid : Prop := messageUnlikeRow.holds Try.pinned (OpenSpec.ofChange messageUnlikeSpec)

/-- ITS FALSE NEIGHBOUR: 'it returns false'. Refute it at one input. -/
def messageUnlikeWrong : ChangeSpec := { name := "messageUnlike", fn := fun _ => fun
  | [d1, d2] => { results := [.lit (.bool false)], args := [d1, d2] }
  | _ => none }
def MessageUnlikeWrongFalsely : Prop := messageUnlikeRow.holds Try.pinned (OpenSpec.ofChange messageUnlikeWrong)

/-- 'embrasurelaw05.MessageFewer': WHATEVER THE INPUT: true; the input reads as it did. -/
def messageFewerSpec : ChangeSpec := { name := "messageFewer", fn := fun _ => fun
  | [d1, d2] => { results := [.lit (.bool true)], args := [d1, d2] }
  | _ => none }
def messageFewerRow : OpenClaim := { program := "ytfekkdmnboccfaa", sum := "466a9739b2fbd4b4b1731d9032adc26a109ff79a74a2b3f6b2ef640092def7e4", func := "embrasure/embrasurelaw05.MessageFewer", spec := "messageFewer", unfollowed := true, recurses := true, apart := false }
def MessageFewerSaid : Prop := messageFewerRow.holds Try.pinned (OpenSpec.ofChange messageFewerSpec)

/-- ITS FALSE NEIGHBOUR: 'it returns false'. Refute it at one input. -/
def messageFewerWrong : ChangeSpec := { name := "messageFewer", fn := fun _ => fun
  | [d1, d2] => { results := [.lit (.bool false)], args := [d1, d2] }
  | _ => none }
def MessageFewerWrongFalsely : Prop := messageFewerRow.holds Try.pinned (OpenSpec.ofChange messageFewerWrong)

/-- 'embrasurelaw05.MessageSizes': WHATEVER THE INPUT: true; the input reads as it did. -/
def messageSizesSpec : ChangeSpec := { name := "messageSizes", fn := fun _ => fun
  | [d] => { results := [.lit (.bool true)], args := [d] }
  | _ => none }
def messageSizesRow : OpenClaim := { program := "ytfekkdmnboccfaa", sum := "466a9739b2fbd4b4b1731d9032adc26a109ff79a74a2b3f6b2ef640092def7e4", func := "embrasure/embrasurelaw05.MessageSizes", spec := "messageSizes", unfollowed := true, recurses := true, apart := false }
def MessageSizesSaid : Prop := messageSizesRow.holds Try.pinned (OpenSpec.ofChange messageSizesSpec)

/-- ITS FALSE NEIGHBOUR: 'it returns false'. Refute it at one input. -/
def messageSizesWrong : ChangeSpec := { name := "messageSizes", fn := fun _ => fun
  | [d] => { results := [.lit (.bool false)], args := [d] }
  | _ => none }
def MessageSizesWrongFalsely : Prop := messageSizesRow.holds Try.pinned (OpenSpec.ofChange messageSizesWrong)

/-- 'embrasurelaw05.MessageOwn': WHATEVER THE INPUT: true; the input reads as it did. -/
def messageOwnSpec : ChangeSpec := { name := "messageOwn", fn := fun _ => fun
  | [d] => { results := [.lit (.bool true)], args := [d] }
  | _ => none }
def messageOwnRow : OpenClaim := { program := "ytfekkdmnboccfaa", sum := "466a9739b2fbd4b4b1731d9032adc26a109ff79a74a2b3f6b2ef640092def7e4", func := "embrasure/embrasurelaw05.MessageOwn", spec := "messageOwn", unfollowed := true, recurses := true, apart := false }
def MessageOwnSaid : Prop := messageOwnRow.holds Try.pinned (OpenSpec.ofChange messageOwnSpec)

/-- ITS FALSE NEIGHBOUR: 'it returns false'. Refute it at one input. -/
def messageOwnWrong : ChangeSpec := { name := "messageOwn", fn := fun _ => fun
  | [d] => { results := [.lit (.bool false)], args := [d] }
  | _ => none }
def MessageOwnWrongFalsely : Prop := messageOwnRow.holds Try.pinned (OpenSpec.ofChange messageOwnWrong)

/- THE SECOND FORM. 'bulk': how many values and letters a reading holds, each counted each time it is reached (what is shared counts as often as it is met; a slice's spare places count too). A statement '..UptoSaid' is the law's where the arguments, and the package variables that the reading takes, are together of bulk at most 1048576: NARROWER than '..Said'. Prove '..Said' where nothing that the law and all that it calls make is longer than what came in: it says more and counts as full. Else prove '..UptoSaid'. A law counts once. -/
mutual
def uptoBulk {H : Type} : DataW H → Nat
  | .lit (.string bytes) => bytes.length + 1
  | .lit _ => 1
  | .nil => 1
  | .ptr d => uptoBulk d + 1
  | .slice elems spare => uptoBulkAll elems + uptoBulkAll spare + 1
  | .agg parts => uptoBulkAll parts + 1
  | .iface _ d => uptoBulk d + 1
  | .map entries => uptoBulkEntries entries + 1
  | .held _ => 1
def uptoBulkAll {H : Type} : List (DataW H) → Nat
  | [] => 0
  | d :: r => uptoBulk d + uptoBulkAll r
def uptoBulkEntries {H : Type} : List (Lit × DataW H) → Nat
  | [] => 0
  | x :: r => uptoBulkEntry x + uptoBulkEntries r
def uptoBulkEntry {H : Type} : Lit × DataW H → Nat
  | (.string bytes, d) => bytes.length + uptoBulk d + 1
  | (_, d) => uptoBulk d + 1
 end
def uptoSmall : (H : Type) → List (DataW H) → Bool := fun _ ds => decide (uptoBulkAll ds ≤ 1048576)
def OpenSpec.upto (s : _root_.Go.ChangeSpec) : _root_.Go.OpenSpec := { _root_.Go.OpenSpec.ofChange s with cond := some uptoSmall }

/-- 'embrasurelaw05.MessageWrites', WHERE WHAT IT READS IS OF BULK AT MOST 1048576: true; the input reads as it did. -/
def messageWritesUptoRow : OpenClaim := { program := "ytfekkdmnboccfaa", sum := "466a9739b2fbd4b4b1731d9032adc26a109ff79a74a2b3f6b2ef640092def7e4", func := "embrasure/embrasurelaw05.MessageWrites", spec := "messageWrites", unfollowed := true, recurses := true, apart := false, narrowed := true }
def MessageWritesUptoSaid : Prop := messageWritesUptoRow.holds Try.pinned (OpenSpec.upto messageWritesSpec)

/-- 'embrasurelaw05.MessageReads', WHERE WHAT IT READS IS OF BULK AT MOST 1048576: true; the input reads as it did. -/
def messageReadsUptoRow : OpenClaim := { program := "ytfekkdmnboccfaa", sum := "466a9739b2fbd4b4b1731d9032adc26a109ff79a74a2b3f6b2ef640092def7e4", func := "embrasure/embrasurelaw05.MessageReads", spec := "messageReads", unfollowed := true, recurses := true, apart := false, narrowed := true }
def MessageReadsUptoSaid : Prop := messageReadsUptoRow.holds Try.pinned (OpenSpec.upto messageReadsSpec)

/-- 'embrasurelaw05.MessageBack', WHERE WHAT IT READS IS OF BULK AT MOST 1048576: true; the input reads as it did. -/
def messageBackUptoRow : OpenClaim := { program := "ytfekkdmnboccfaa", sum := "466a9739b2fbd4b4b1731d9032adc26a109ff79a74a2b3f6b2ef640092def7e4", func := "embrasure/embrasurelaw05.MessageBack", spec := "messageBack", unfollowed := true, recurses := true, apart := false, narrowed := true }
def MessageBackUptoSaid : Prop := messageBackUptoRow.holds Try.pinned (OpenSpec.upto messageBackSpec)

/-- 'embrasurelaw05.MessageCuts', WHERE WHAT IT READS IS OF BULK AT MOST 1048576: true; the input reads as it did. -/
def messageCutsUptoRow : OpenClaim := { program := "ytfekkdmnboccfaa", sum := "466a9739b2fbd4b4b1731d9032adc26a109ff79a74a2b3f6b2ef640092def7e4", func := "embrasure/embrasurelaw05.MessageCuts", spec := "messageCuts", unfollowed := true, recurses := true, apart := false, narrowed := true }
def MessageCutsUptoSaid : Prop := messageCutsUptoRow.holds Try.pinned (OpenSpec.upto messageCutsSpec)

/-- 'embrasurelaw05.MessageFields', WHERE WHAT IT READS IS OF BULK AT MOST 1048576: true; the input reads as it did. -/
def messageFieldsUptoRow : OpenClaim := { program := "ytfekkdmnboccfaa", sum := "466a9739b2fbd4b4b1731d9032adc26a109ff79a74a2b3f6b2ef640092def7e4", func := "embrasure/embrasurelaw05.MessageFields", spec := "messageFields", unfollowed := true, recurses := true, apart := false, narrowed := true }
def MessageFieldsUptoSaid : Prop := messageFieldsUptoRow.holds Try.pinned (OpenSpec.upto messageFieldsSpec)

/-- 'embrasurelaw05.MessageUnlike', WHERE WHAT IT READS IS OF BULK AT MOST 1048576: true; the input reads as it did. -/
def messageUnlikeUptoRow : OpenClaim := { program := "ytfekkdmnboccfaa", sum := "466a9739b2fbd4b4b1731d9032adc26a109ff79a74a2b3f6b2ef640092def7e4", func := "embrasure/embrasurelaw05.MessageUnlike", spec := "messageUnlike", unfollowed := true, recurses := true, apart := false, narrowed := true }
def MessageUnlikeUptoSaid : Prop := messageUnlikeUptoRow.holds Try.pinned (OpenSpec.upto messageUnlikeSpec)

/-- 'embrasurelaw05.MessageFewer', WHERE WHAT IT READS IS OF BULK AT MOST 1048576: true; the input reads as it did. -/
def messageFewerUptoRow : OpenClaim := { program := "ytfekkdmnboccfaa", sum := "466a9739b2fbd4b4b1731d9032adc26a109ff79a74a2b3f6b2ef640092def7e4", func := "embrasure/embrasurelaw05.MessageFewer", spec := "messageFewer", unfollowed := true, recurses := true, apart := false, narrowed := true }
def MessageFewerUptoSaid : Prop := messageFewerUptoRow.holds Try.pinned (OpenSpec.upto messageFewerSpec)

/-- 'embrasurelaw05.MessageSizes', WHERE WHAT IT READS IS OF BULK AT MOST 1048576: true; the input reads as it did. -/
def messageSizesUptoRow : OpenClaim := { program := "ytfekkdmnboccfaa", sum := "466a9739b2fbd4b4b1731d9032adc26a109ff79a74a2b3f6b2ef640092def7e4", func := "embrasure/embrasurelaw05.MessageSizes", spec := "messageSizes", unfollowed := true, recurses := true, apart := false, narrowed := true }
def MessageSizesUptoSaid : Prop := messageSizesUptoRow.holds Try.pinned (OpenSpec.upto messageSizesSpec)

/-- 'embrasurelaw05.MessageOwn', WHERE WHAT IT READS IS OF BULK AT MOST 1048576: true; the input reads as it did. -/
def messageOwnUptoRow : OpenClaim := { program := "ytfekkdmnboccfaa", sum := "466a9739b2fbd4b4b1731d9032adc26a109ff79a74a2b3f6b2ef640092def7e4", func := "embrasure/embrasurelaw05.MessageOwn", spec := "messageOwn", unfollowed := true, recurses := true, apart := false, narrowed := true }
def MessageOwnUptoSaid : Prop := messageOwnUptoRow.holds Try.pinned (OpenSpec.upto messageOwnSpec)

end Rows
end Go.Proofs.Ytfekkdmnboccfaa
