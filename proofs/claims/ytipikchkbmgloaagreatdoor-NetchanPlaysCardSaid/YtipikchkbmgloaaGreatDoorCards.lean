/-
  DERIVED. GIVEN WITH THE SEED: THE CARDS: each row of YtipikchkbmgloaaGreatDoorRows.lean that lists a variable, with what it lists TIED to the program's text (the seventh form; the later family's looks); each row that meets fmt, with fmt's text TOLD by the authors' own Lean function (tested against real Go, not proved from fmt's source: count such statements apart). THE CARD IS WHAT COUNTS. Prove the row's statement (the work); the ties are given (YtipikchkbmgloaaGreatDoorTie.lean); close each card by the builder's one call (the guide's Derived/Test/ToyasCard.lean, 'card_holds'). Laid BY PROGRAM, IN A SANDBOX (cutbox-door.mjs). By AI agents, Wed Nov 11 2026. No macro, syntax, notation, axiom, sorry.
-/
import Derived.Test.YtipikchkbmgloaaGreatDoorRows
import GoSem.ClaimSeven
namespace Go.Proofs.YtipikchkbmgloaaGreatDoor
namespace Rows

/-- THE TIED CARD OF 'embrasurelaw08.NetchanPlays'. -/
def netchanPlaysCard : Claim7 := { stood := { row := netchanPlaysRow, standIns := [], harness := (true, "1d77507307d91111b34a789d2848eeb0350eab5be78f959c3dd84512414684ee"), looks := false }, kinds := [], alts := [], laidByText := true, laidKinds := [.data], laidTests := true, laidLooks := .later }
def NetchanPlaysCardSaid : Prop := Claim7.holds Tryz.pinned (.plain (OpenSpec.ofChange netchanPlaysSpec)) netchanPlaysCard

/-- THE SECOND FORM's CARD OF 'embrasurelaw08.NetchanPlays'. -/
def netchanPlaysUptoCard : Claim7 := { stood := { row := netchanPlaysUptoRow, standIns := [], harness := (true, "1d77507307d91111b34a789d2848eeb0350eab5be78f959c3dd84512414684ee"), looks := false }, kinds := [], alts := [], laidByText := true, laidKinds := [.data], laidTests := true, laidLooks := .later }
def NetchanPlaysUptoCardSaid : Prop := Claim7.holds Tryz.pinned (.plain (OpenSpec.upto netchanPlaysSpec)) netchanPlaysUptoCard
end Rows
end Go.Proofs.YtipikchkbmgloaaGreatDoor
