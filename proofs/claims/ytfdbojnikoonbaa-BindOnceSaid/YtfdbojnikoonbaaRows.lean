/-
  No cell of these rows narrows 'for every input' (looked for: loops, veiled, ifaces, maps, wideKeys, modest, calm, conditions, laid).
  DERIVED. THE GIVEN ROWS OF THIS SEAT. 4 by the template 'for every input the law returns true; each argument reads behind the call as it read before'; 0 by the template 'total and deterministic' (their statements: YtfdbojnikoonbaaTotals.lean).
  GIVEN WITH THE SEED: the statements are not yours to turn. If you find one false, say at which input.
  Laid BY PROGRAM, IN A SANDBOX (cutbox-rows.mjs): the forced cells as the released guide's own fill.sh prints them over the translation 73590ecf654a8b89… (all of the seat's roots in one cut). By AI agents, Wed Nov 11 2026. No macro, syntax, notation, axiom, sorry.
-/
import Derived.Test.YtfdbojnikoonbaaChecked
import GoSem.Claim
import GoSem.ClaimJoined
import GoSem.ClaimMapViews
import Derived.JoinedTies
import Derived.KernelRfl
namespace Go.Proofs.Ytfdbojnikoonbaa
/- THE CELL 'sum', in the pinned program and in every row, IS THE sha256 OF THE DUMP (.gsa) THAT YtfdbojnikoonbaaProg.lean LOADS. Nothing in Lean hashes anything: it is a label: what it is worth is what the hold of that sum in a sandbox is worth. -/
noncomputable def Try.pinned : Pinned := { name := "ytfdbojnikoonbaa", sum := "73590ecf654a8b89f8b3432e5c021fcadd433a624d198df4a4277a98440dc7fe", checked := Try.checked }
namespace Rows
def none {H : Type} : Left H := { results := [], args := [] }

/-- 'embrasurelaw15.BindOld': WHATEVER THE INPUT: true; the input reads as it did. -/
def bindOldSpec : ChangeSpec := { name := "bindOld", fn := fun _ => fun
  | [d1, d2] => { results := [.lit (.bool true)], args := [d1, d2] }
  | _ => none }
def bindOldRow : OpenClaim := { program := "ytfdbojnikoonbaa", sum := "73590ecf654a8b89f8b3432e5c021fcadd433a624d198df4a4277a98440dc7fe", func := "embrasure/embrasurelaw15.BindOld", spec := "bindOld", unfollowed := true, recurses := true, apart := false }
def BindOldSaid : Prop := bindOldRow.holds Try.pinned (OpenSpec.ofChange bindOldSpec)

/-- ITS FALSE NEIGHBOUR: 'it returns false'. Refute it at one input. -/
def bindOldWrong : ChangeSpec := { name := "bindOld", fn := fun _ => fun
  | [d1, d2] => { results := [.lit (.bool false)], args := [d1, d2] }
  | _ => none }
def BindOldWrongFalsely : Prop := bindOldRow.holds Try.pinned (OpenSpec.ofChange bindOldWrong)

/-- 'embrasurelaw15.BindOnce': WHATEVER THE INPUT: true; the input reads as it did. -/
def bindOnceSpec : ChangeSpec := { name := "bindOnce", fn := fun _ => fun
  | [d] => { results := [.lit (.bool true)], args := [d] }
  | _ => none }
def bindOnceRow : OpenClaim := { program := "ytfdbojnikoonbaa", sum := "73590ecf654a8b89f8b3432e5c021fcadd433a624d198df4a4277a98440dc7fe", func := "embrasure/embrasurelaw15.BindOnce", spec := "bindOnce", unfollowed := true, recurses := true, apart := false }
def BindOnceSaid : Prop := bindOnceRow.holds Try.pinned (OpenSpec.ofChange bindOnceSpec)

/-- ITS FALSE NEIGHBOUR: 'it returns false'. Refute it at one input. -/
def bindOnceWrong : ChangeSpec := { name := "bindOnce", fn := fun _ => fun
  | [d] => { results := [.lit (.bool false)], args := [d] }
  | _ => none }
def BindOnceWrongFalsely : Prop := bindOnceRow.holds Try.pinned (OpenSpec.ofChange bindOnceWrong)

/-- 'embrasurelaw15.BindTwice': WHATEVER THE INPUT: true; the input reads as it did. -/
def bindTwiceSpec : ChangeSpec := { name := "bindTwice", fn := fun _ => fun
  | [d] => { results := [.lit (.bool true)], args := [d] }
  | _ => none }
def bindTwiceRow : OpenClaim := { program := "ytfdbojnikoonbaa", sum := "73590ecf654a8b89f8b3432e5c021fcadd433a624d198df4a4277a98440dc7fe", func := "embrasure/embrasurelaw15.BindTwice", spec := "bindTwice", unfollowed := true, recurses := true, apart := false }
def BindTwiceSaid : Prop := bindTwiceRow.holds Try.pinned (OpenSpec.ofChange bindTwiceSpec)

/-- ITS FALSE NEIGHBOUR: 'it returns false'. Refute it at one input. -/
def bindTwiceWrong : ChangeSpec := { name := "bindTwice", fn := fun _ => fun
  | [d] => { results := [.lit (.bool false)], args := [d] }
  | _ => none }
def BindTwiceWrongFalsely : Prop := bindTwiceRow.holds Try.pinned (OpenSpec.ofChange bindTwiceWrong)

/-- 'embrasurelaw15.BindApart': WHATEVER THE INPUT: true; the input reads as it did. -/
def bindApartSpec : ChangeSpec := { name := "bindApart", fn := fun _ => fun
  | [d1, d2] => { results := [.lit (.bool true)], args := [d1, d2] }
  | _ => none }
def bindApartRow : OpenClaim := { program := "ytfdbojnikoonbaa", sum := "73590ecf654a8b89f8b3432e5c021fcadd433a624d198df4a4277a98440dc7fe", func := "embrasure/embrasurelaw15.BindApart", spec := "bindApart", unfollowed := true, recurses := true, apart := false }
def BindApartSaid : Prop := bindApartRow.holds Try.pinned (OpenSpec.ofChange bindApartSpec)

/-- ITS FALSE NEIGHBOUR: 'it returns false'. Refute it at one input. -/
def bindApartWrong : ChangeSpec := { name := "bindApart", fn := fun _ => fun
  | [d1, d2] => { results := [.lit (.bool false)], args := [d1, d2] }
  | _ => none }
def BindApartWrongFalsely : Prop := bindApartRow.holds Try.pinned (OpenSpec.ofChange bindApartWrong)

/- THE SECOND FORM. 'bulk': how many values and letters a reading holds, each counted each time it is reached (what is shared counts as often as it is met; a slice's spare places count too). A statement '..UptoSaid' is the law's where the arguments, and the package variables that the reading takes, are together of bulk at most 1048576: NARROWER than '..Said'. Prove '..Said' where nothing that the law and all that it calls make is longer than what came in: it says more and counts as full. Else prove '..UptoSaid'. A law counts once. -/
mutual
def uptoBulk {H : Type} : DataW H → Nat
  | .lit (.string bytes) => bytes.length + 1
  | .lit _ => 1
  | .nil => 1
  | .ptr d => uptoBulk d + 1
  | .slice elems spare => uptoBulkAll elems + uptoBulkAll spare + 1
  | .agg parts => uptoBulkAll parts + 1
  | .iface _ d => uptoBulk d + 1
  | .map entries => uptoBulkEntries entries + 1
  | .held _ => 1
def uptoBulkAll {H : Type} : List (DataW H) → Nat
  | [] => 0
  | d :: r => uptoBulk d + uptoBulkAll r
def uptoBulkEntries {H : Type} : List (Lit × DataW H) → Nat
  | [] => 0
  | x :: r => uptoBulkEntry x + uptoBulkEntries r
def uptoBulkEntry {H : Type} : Lit × DataW H → Nat
  | (.string bytes, d) => bytes.length + uptoBulk d + 1
  | (_, d) => uptoBulk d + 1
 end
def uptoSmall : (H : Type) → List (DataW H) → Bool := fun _ ds => decide (uptoBulkAll ds ≤ 1048576)
def OpenSpec.upto (s : _root_.Go.ChangeSpec) : _root_.Go.OpenSpec := { _root_.Go.OpenSpec.ofChange s with cond := some uptoSmall }

/-- 'embrasurelaw15.BindOld', WHERE WHAT IT READS IS OF BULK AT MOST 1048576: true; the input reads as it did. -/
def bindOldUptoRow : OpenClaim := { program := "ytfdbojnikoonbaa", sum := "73590ecf654a8b89f8b3432e5c021fcadd433a624d198df4a4277a98440dc7fe", func := "embrasure/embrasurelaw15.BindOld", spec := "bindOld", unfollowed := true, recurses := true, apart := false, narrowed := true }
def BindOldUptoSaid : Prop := bindOldUptoRow.holds Try.pinned (OpenSpec.upto bindOldSpec)

/-- 'embrasurelaw15.BindOnce', WHERE WHAT IT READS IS OF BULK AT MOST 1048576: true; the input reads as it did. -/
def bindOnceUptoRow : OpenClaim := { program := "ytfdbojnikoonbaa", sum := "73590ecf654a8b89f8b3432e5c021fcadd433a624d198df4a4277a98440dc7fe", func := "embrasure/embrasurelaw15.BindOnce", spec := "bindOnce", unfollowed := true, recurses := true, apart := false, narrowed := true }
def BindOnceUptoSaid : Prop := bindOnceUptoRow.holds Try.pinned (OpenSpec.upto bindOnceSpec)

/-- 'embrasurelaw15.BindTwice', WHERE WHAT IT READS IS OF BULK AT MOST 1048576: true; the input reads as it did. -/
def bindTwiceUptoRow : OpenClaim := { program := "ytfdbojnikoonbaa", sum := "73590ecf654a8b89f8b3432e5c021fcadd433a624d198df4a4277a98440dc7fe", func := "embrasure/embrasurelaw15.BindTwice", spec := "bindTwice", unfollowed := true, recurses := true, apart := false, narrowed := true }
def BindTwiceUptoSaid : Prop := bindTwiceUptoRow.holds Try.pinned (OpenSpec.upto bindTwiceSpec)

/-- 'embrasurelaw15.BindApart', WHERE WHAT IT READS IS OF BULK AT MOST 1048576: true; the input reads as it did. -/
def bindApartUptoRow : OpenClaim := { program := "ytfdbojnikoonbaa", sum := "73590ecf654a8b89f8b3432e5c021fcadd433a624d198df4a4277a98440dc7fe", func := "embrasure/embrasurelaw15.BindApart", spec := "bindApart", unfollowed := true, recurses := true, apart := false, narrowed := true }
def BindApartUptoSaid : Prop := bindApartUptoRow.holds Try.pinned (OpenSpec.upto bindApartSpec)

end Rows
end Go.Proofs.Ytfdbojnikoonbaa
