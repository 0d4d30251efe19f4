/- What NetPlays needs, part 13 of 13: RowN.  Conditions: as each part says. -/
import Derived.Test.YtipikchkbmgloaaGreatDoorRows
import Derived.Test.YtipikchkbmgloaaGreatDoorTie
import Derived.Test.YtipikchkbmgloaaGreatDoorCards
import Derived.SevenTiedAt
import Derived.Stop.Joined
import Derived.Test.YtipikchkbmgloaaGreatDoorNetPlaysA12
namespace Go.Proofs.YtipikchkbmgloaaGreatDoor
set_option linter.unusedSimpArgs false
set_option linter.unusedVariables false
open Go Go.RowKit Go.ChangeShapes Go.WideShapes VC
def laidT : List (String × DataW Unit) := [("embrasure/crc.halves", Rows.laid_embrasure_crc_halves)]
theorem halves_of {W : World} (h : laidMetH Tryz.prog laidT W) : Halves W := by
 rw [MakeChecks.laidMetH_plain _ _ _ (by kernel_rfl)] at h
 have hg : Tryz.prog.globalNamed "embrasure/crc.halves" = some 0 := by kernel_rfl
 have ht : Lib.TabIs Tryz.prog W "embrasure/crc.halves" .u16 [0, 4129, 8258, 12387, 16516, 20645, 24774, 28903, 33032, 37161, 41290, 45419, 49548, 53677, 57806, 61935] :=
  Lib.tabIs_of_head (rest := []) (e := 32) (n := 16) hg (show (Tryz.prog.globals[0]?).map (·.type) = some 186 by kernel_rfl) (by kernel_rfl) (by kernel_rfl) (by kernel_rfl) (by kernel_rfl) h
 intro i hi
 have := ht.cell hg i (by simpa using hi)
 rw [this]
 have hall : ∀ i : Nat, i < 16 → ([0, 4129, 8258, 12387, 16516, 20645, 24774, 28903, 33032, 37161, 41290, 45419, 49548, 53677, 57806, 61935] : List Int).getD i 0 = ((crcT.getD i 0 : Nat) : Int) := by decide
 rw [hall i hi]
theorem door_met (os : Os) (args : Array Value) : laidMetH Tryz.prog laidT ((World.doorLaid Tryz.prog 400 os).forCall (fun _ _ => 0) ⟨#[], args, []⟩).memory :=
 laidMetH_of_parts3 (fuel := 8) (laidMet_of_run' 8 (by kernel_rfl) (by kernel_rfl)) (by kernel_rfl) (by kernel_rfl)
section
variable {H : Type} {enc : TypeId × Value → H} {W : World} {base : Nat} {spare : Nat → Bool} {held : Bool}
end
end Go.Proofs.YtipikchkbmgloaaGreatDoor
