/-
  NARROWER THAN 'FOR EVERY INPUT', by the rows' own cells (each row's printed sentence says how): NetchanBytes: laid · NetchanBack: laid · NetchanOnce: laid · NetchanComes: laid · NetchanWaits: laid.
  DERIVED. THE GIVEN ROWS OF THIS SEAT. 5 by the template 'for every input the law returns true; each argument reads behind the call as it read before'; 0 by the template 'total and deterministic' (their statements: YtipikchkbmgloaaDoorTotals.lean).
  GIVEN WITH THE SEED: the statements are not yours to turn. If you find one false, say at which input.
  Laid BY PROGRAM, IN A SANDBOX (cutbox-rows.mjs): the forced cells as the released guide's own fill.sh prints them over the translation 8a4a23164d0d7375… (all of the seat's roots in one cut). By AI agents, Wed Nov 11 2026. No macro, syntax, notation, axiom, sorry.
-/
import Derived.Test.YtipikchkbmgloaaDoorChecked
import GoSem.Claim
import GoSem.ClaimJoined
import GoSem.ClaimMapViews
import Derived.JoinedTies
import Derived.KernelRfl
namespace Go.Proofs.YtipikchkbmgloaaDoor
/- THE CELL 'sum', in the pinned program and in every row, IS THE sha256 OF THE DUMP (.gsa) THAT YtipikchkbmgloaaDoorProg.lean LOADS. Nothing in Lean hashes anything: it is a label: what it is worth is what the hold of that sum in a sandbox is worth. -/
noncomputable def Tryd.pinned : Pinned := { name := "ytipikchkbmgloaadoor", sum := "8a4a23164d0d7375ccf9a0d9958c9125104001c5d84fe1c0a1015127614302b2", checked := Tryd.checked }
namespace Rows
def none {H : Type} : Left H := { results := [], args := [] }

/- WHAT THE LISTED PACKAGE-LEVEL VARIABLES READ AS WHEN THE CALL BEGINS. Each datum BY PROGRAM (the guide's laid-datum.mjs) off the statement by which the dump's own 'gosem.cut.vars' lays the variable. In a bare row this is a premise. The card (YtipikchkbmgloaaDoorCards.lean) ties it to the program's text. -/
def laid_embrasure_crc_halves {H : Type} : DataW H := .agg [.lit (.int .u16 0), .lit (.int .u16 4129), .lit (.int .u16 8258), .lit (.int .u16 12387), .lit (.int .u16 16516), .lit (.int .u16 20645), .lit (.int .u16 24774), .lit (.int .u16 28903), .lit (.int .u16 33032), .lit (.int .u16 37161), .lit (.int .u16 41290), .lit (.int .u16 45419), .lit (.int .u16 49548), .lit (.int .u16 53677), .lit (.int .u16 57806), .lit (.int .u16 61935)]

/-- 'embrasurelaw08.NetchanBytes': WHATEVER THE INPUT: true; the input reads as it did. -/
def netchanBytesSpec : ChangeSpec := { name := "netchanBytes", fn := fun _ => fun
  | [d1, d2, d3, d4, d5, d6] => { results := [.lit (.bool true)], args := [d1, d2, d3, d4, d5, d6] }
  | _ => none }
def netchanBytesRow : OpenClaim := { program := "ytipikchkbmgloaadoor", sum := "8a4a23164d0d7375ccf9a0d9958c9125104001c5d84fe1c0a1015127614302b2", func := "embrasure/embrasurelaw08.NetchanBytes", spec := "netchanBytes", unfollowed := true, recurses := true, named := ["embrasure/crc.halves"], apart := false, laid := [("embrasure/crc.halves", laid_embrasure_crc_halves)] }
def NetchanBytesSaid : Prop := netchanBytesRow.holds Tryd.pinned (OpenSpec.ofChange netchanBytesSpec)

/-- ITS FALSE NEIGHBOUR: 'it returns false'. Refute it at one input. -/
def netchanBytesWrong : ChangeSpec := { name := "netchanBytes", fn := fun _ => fun
  | [d1, d2, d3, d4, d5, d6] => { results := [.lit (.bool false)], args := [d1, d2, d3, d4, d5, d6] }
  | _ => none }
def NetchanBytesWrongFalsely : Prop := netchanBytesRow.holds Tryd.pinned (OpenSpec.ofChange netchanBytesWrong)

/-- 'embrasurelaw08.NetchanBack': WHATEVER THE INPUT: true; the input reads as it did. -/
def netchanBackSpec : ChangeSpec := { name := "netchanBack", fn := fun _ => fun
  | [d1, d2, d3, d4, d5, d6] => { results := [.lit (.bool true)], args := [d1, d2, d3, d4, d5, d6] }
  | _ => none }
def netchanBackRow : OpenClaim := { program := "ytipikchkbmgloaadoor", sum := "8a4a23164d0d7375ccf9a0d9958c9125104001c5d84fe1c0a1015127614302b2", func := "embrasure/embrasurelaw08.NetchanBack", spec := "netchanBack", unfollowed := true, recurses := true, named := ["embrasure/crc.halves"], apart := false, laid := [("embrasure/crc.halves", laid_embrasure_crc_halves)] }
def NetchanBackSaid : Prop := netchanBackRow.holds Tryd.pinned (OpenSpec.ofChange netchanBackSpec)

/-- ITS FALSE NEIGHBOUR: 'it returns false'. Refute it at one input. -/
def netchanBackWrong : ChangeSpec := { name := "netchanBack", fn := fun _ => fun
  | [d1, d2, d3, d4, d5, d6] => { results := [.lit (.bool false)], args := [d1, d2, d3, d4, d5, d6] }
  | _ => none }
def NetchanBackWrongFalsely : Prop := netchanBackRow.holds Tryd.pinned (OpenSpec.ofChange netchanBackWrong)

/-- 'embrasurelaw08.NetchanOnce': WHATEVER THE INPUT: true; the input reads as it did. -/
def netchanOnceSpec : ChangeSpec := { name := "netchanOnce", fn := fun _ => fun
  | [d1, d2, d3] => { results := [.lit (.bool true)], args := [d1, d2, d3] }
  | _ => none }
def netchanOnceRow : OpenClaim := { program := "ytipikchkbmgloaadoor", sum := "8a4a23164d0d7375ccf9a0d9958c9125104001c5d84fe1c0a1015127614302b2", func := "embrasure/embrasurelaw08.NetchanOnce", spec := "netchanOnce", unfollowed := true, recurses := true, named := ["embrasure/crc.halves"], apart := false, laid := [("embrasure/crc.halves", laid_embrasure_crc_halves)] }
def NetchanOnceSaid : Prop := netchanOnceRow.holds Tryd.pinned (OpenSpec.ofChange netchanOnceSpec)

/-- ITS FALSE NEIGHBOUR: 'it returns false'. Refute it at one input. -/
def netchanOnceWrong : ChangeSpec := { name := "netchanOnce", fn := fun _ => fun
  | [d1, d2, d3] => { results := [.lit (.bool false)], args := [d1, d2, d3] }
  | _ => none }
def NetchanOnceWrongFalsely : Prop := netchanOnceRow.holds Tryd.pinned (OpenSpec.ofChange netchanOnceWrong)

/-- 'embrasurelaw08.NetchanComes': WHATEVER THE INPUT: true; the input reads as it did. -/
def netchanComesSpec : ChangeSpec := { name := "netchanComes", fn := fun _ => fun
  | [d1, d2] => { results := [.lit (.bool true)], args := [d1, d2] }
  | _ => none }
def netchanComesRow : OpenClaim := { program := "ytipikchkbmgloaadoor", sum := "8a4a23164d0d7375ccf9a0d9958c9125104001c5d84fe1c0a1015127614302b2", func := "embrasure/embrasurelaw08.NetchanComes", spec := "netchanComes", unfollowed := true, recurses := true, named := ["embrasure/crc.halves"], apart := false, laid := [("embrasure/crc.halves", laid_embrasure_crc_halves)] }
def NetchanComesSaid : Prop := netchanComesRow.holds Tryd.pinned (OpenSpec.ofChange netchanComesSpec)

/-- ITS FALSE NEIGHBOUR: 'it returns false'. Refute it at one input. -/
def netchanComesWrong : ChangeSpec := { name := "netchanComes", fn := fun _ => fun
  | [d1, d2] => { results := [.lit (.bool false)], args := [d1, d2] }
  | _ => none }
def NetchanComesWrongFalsely : Prop := netchanComesRow.holds Tryd.pinned (OpenSpec.ofChange netchanComesWrong)

/-- 'embrasurelaw08.NetchanWaits': WHATEVER THE INPUT: true; the input reads as it did. -/
def netchanWaitsSpec : ChangeSpec := { name := "netchanWaits", fn := fun _ => fun
  | [d1, d2] => { results := [.lit (.bool true)], args := [d1, d2] }
  | _ => none }
def netchanWaitsRow : OpenClaim := { program := "ytipikchkbmgloaadoor", sum := "8a4a23164d0d7375ccf9a0d9958c9125104001c5d84fe1c0a1015127614302b2", func := "embrasure/embrasurelaw08.NetchanWaits", spec := "netchanWaits", unfollowed := true, recurses := true, named := ["embrasure/crc.halves"], apart := false, laid := [("embrasure/crc.halves", laid_embrasure_crc_halves)] }
def NetchanWaitsSaid : Prop := netchanWaitsRow.holds Tryd.pinned (OpenSpec.ofChange netchanWaitsSpec)

/-- ITS FALSE NEIGHBOUR: 'it returns false'. Refute it at one input. -/
def netchanWaitsWrong : ChangeSpec := { name := "netchanWaits", fn := fun _ => fun
  | [d1, d2] => { results := [.lit (.bool false)], args := [d1, d2] }
  | _ => none }
def NetchanWaitsWrongFalsely : Prop := netchanWaitsRow.holds Tryd.pinned (OpenSpec.ofChange netchanWaitsWrong)

/- THE SECOND FORM. 'bulk': how many values and letters a reading holds, each counted each time it is reached (what is shared counts as often as it is met; a slice's spare places count too). A statement '..UptoSaid' is the law's where the arguments, and the package variables that the reading takes, are together of bulk at most 1048576: NARROWER than '..Said'. Prove '..Said' where nothing that the law and all that it calls make is longer than what came in: it says more and counts as full. Else prove '..UptoSaid'. A law counts once. -/
mutual
def uptoBulk {H : Type} : DataW H → Nat
  | .lit (.string bytes) => bytes.length + 1
  | .lit _ => 1
  | .nil => 1
  | .ptr d => uptoBulk d + 1
  | .slice elems spare => uptoBulkAll elems + uptoBulkAll spare + 1
  | .agg parts => uptoBulkAll parts + 1
  | .iface _ d => uptoBulk d + 1
  | .map entries => uptoBulkEntries entries + 1
  | .held _ => 1
def uptoBulkAll {H : Type} : List (DataW H) → Nat
  | [] => 0
  | d :: r => uptoBulk d + uptoBulkAll r
def uptoBulkEntries {H : Type} : List (Lit × DataW H) → Nat
  | [] => 0
  | x :: r => uptoBulkEntry x + uptoBulkEntries r
def uptoBulkEntry {H : Type} : Lit × DataW H → Nat
  | (.string bytes, d) => bytes.length + uptoBulk d + 1
  | (_, d) => uptoBulk d + 1
 end
def uptoSmall : (H : Type) → List (DataW H) → Bool := fun _ ds => decide (uptoBulkAll ds ≤ 1048576)
def OpenSpec.upto (s : _root_.Go.ChangeSpec) : _root_.Go.OpenSpec := { _root_.Go.OpenSpec.ofChange s with cond := some uptoSmall }

/-- 'embrasurelaw08.NetchanBytes', WHERE WHAT IT READS IS OF BULK AT MOST 1048576: true; the input reads as it did. -/
def netchanBytesUptoRow : OpenClaim := { program := "ytipikchkbmgloaadoor", sum := "8a4a23164d0d7375ccf9a0d9958c9125104001c5d84fe1c0a1015127614302b2", func := "embrasure/embrasurelaw08.NetchanBytes", spec := "netchanBytes", unfollowed := true, recurses := true, named := ["embrasure/crc.halves"], apart := false, laid := [("embrasure/crc.halves", laid_embrasure_crc_halves)], narrowed := true }
def NetchanBytesUptoSaid : Prop := netchanBytesUptoRow.holds Tryd.pinned (OpenSpec.upto netchanBytesSpec)

/-- 'embrasurelaw08.NetchanBack', WHERE WHAT IT READS IS OF BULK AT MOST 1048576: true; the input reads as it did. -/
def netchanBackUptoRow : OpenClaim := { program := "ytipikchkbmgloaadoor", sum := "8a4a23164d0d7375ccf9a0d9958c9125104001c5d84fe1c0a1015127614302b2", func := "embrasure/embrasurelaw08.NetchanBack", spec := "netchanBack", unfollowed := true, recurses := true, named := ["embrasure/crc.halves"], apart := false, laid := [("embrasure/crc.halves", laid_embrasure_crc_halves)], narrowed := true }
def NetchanBackUptoSaid : Prop := netchanBackUptoRow.holds Tryd.pinned (OpenSpec.upto netchanBackSpec)

/-- 'embrasurelaw08.NetchanOnce', WHERE WHAT IT READS IS OF BULK AT MOST 1048576: true; the input reads as it did. -/
def netchanOnceUptoRow : OpenClaim := { program := "ytipikchkbmgloaadoor", sum := "8a4a23164d0d7375ccf9a0d9958c9125104001c5d84fe1c0a1015127614302b2", func := "embrasure/embrasurelaw08.NetchanOnce", spec := "netchanOnce", unfollowed := true, recurses := true, named := ["embrasure/crc.halves"], apart := false, laid := [("embrasure/crc.halves", laid_embrasure_crc_halves)], narrowed := true }
def NetchanOnceUptoSaid : Prop := netchanOnceUptoRow.holds Tryd.pinned (OpenSpec.upto netchanOnceSpec)

/-- 'embrasurelaw08.NetchanComes', WHERE WHAT IT READS IS OF BULK AT MOST 1048576: true; the input reads as it did. -/
def netchanComesUptoRow : OpenClaim := { program := "ytipikchkbmgloaadoor", sum := "8a4a23164d0d7375ccf9a0d9958c9125104001c5d84fe1c0a1015127614302b2", func := "embrasure/embrasurelaw08.NetchanComes", spec := "netchanComes", unfollowed := true, recurses := true, named := ["embrasure/crc.halves"], apart := false, laid := [("embrasure/crc.halves", laid_embrasure_crc_halves)], narrowed := true }
def NetchanComesUptoSaid : Prop := netchanComesUptoRow.holds Tryd.pinned (OpenSpec.upto netchanComesSpec)

/-- 'embrasurelaw08.NetchanWaits', WHERE WHAT IT READS IS OF BULK AT MOST 1048576: true; the input reads as it did. -/
def netchanWaitsUptoRow : OpenClaim := { program := "ytipikchkbmgloaadoor", sum := "8a4a23164d0d7375ccf9a0d9958c9125104001c5d84fe1c0a1015127614302b2", func := "embrasure/embrasurelaw08.NetchanWaits", spec := "netchanWaits", unfollowed := true, recurses := true, named := ["embrasure/crc.halves"], apart := false, laid := [("embrasure/crc.halves", laid_embrasure_crc_halves)], narrowed := true }
def NetchanWaitsUptoSaid : Prop := netchanWaitsUptoRow.holds Tryd.pinned (OpenSpec.upto netchanWaitsSpec)

end Rows
end Go.Proofs.YtipikchkbmgloaaDoor
