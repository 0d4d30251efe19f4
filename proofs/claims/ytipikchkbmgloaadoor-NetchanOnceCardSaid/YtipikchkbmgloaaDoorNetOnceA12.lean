/- What NetOnce needs, part 12 of 12: RowN.  Conditions: as each part says. -/
import Derived.Test.YtipikchkbmgloaaDoorRows
import Derived.Test.YtipikchkbmgloaaDoorTie
import Derived.Test.YtipikchkbmgloaaDoorCards
import Derived.SevenTiedAt
import Derived.Stop.Joined
import Derived.Test.YtipikchkbmgloaaDoorNetOnceA11
namespace Go.Proofs.YtipikchkbmgloaaDoor
set_option linter.unusedSimpArgs false
set_option linter.unusedVariables false
open Go Go.RowKit Go.ChangeShapes Go.WideShapes VC
def laidT : List (String × DataW Unit) := [("embrasure/crc.halves", Rows.laid_embrasure_crc_halves)]
theorem halves_of {W : World} (h : laidMetH Tryd.prog laidT W) : Halves W := by
  rw [MakeChecks.laidMetH_plain _ _ _ (by kernel_rfl)] at h
  have hg : Tryd.prog.globalNamed "embrasure/crc.halves" = some 0 := by kernel_rfl
  have ht : Lib.TabIs Tryd.prog W "embrasure/crc.halves" .u16 [0, 4129, 8258, 12387, 16516, 20645, 24774, 28903, 33032, 37161, 41290, 45419, 49548, 53677, 57806, 61935] :=
    Lib.tabIs_of_head (rest := []) (e := 22) (n := 16) hg (show (Tryd.prog.globals[0]?).map (·.type) = some 153 by kernel_rfl) (by kernel_rfl) (by kernel_rfl) (by kernel_rfl) (by kernel_rfl) h
  intro i hi
  have := ht.cell hg i (by simpa using hi)
  rw [this]
  have hall : ∀ i : Nat, i < 16 → ([0, 4129, 8258, 12387, 16516, 20645, 24774, 28903, 33032, 37161, 41290, 45419, 49548, 53677, 57806, 61935] : List Int).getD i 0 = ((crcT.getD i 0 : Nat) : Int) := by decide
  rw [hall i hi]
theorem door_met (os : Os) (args : Array Value) : laidMetH Tryd.prog laidT ((World.doorLaid Tryd.prog 400 os).forCall (fun _ _ => 0) ⟨#[], args, []⟩).memory :=
  laidMetH_of_parts3 (fuel := 8) (laidMet_of_run' 8 (by kernel_rfl) (by kernel_rfl)) (by kernel_rfl) (by kernel_rfl)
section
variable {H : Type} {enc : TypeId × Value → H} {W : World} {base : Nat} {spare : Nat → Bool} {held : Bool}
theorem trodAll_six {P : Program} {t0 t1 t2 t3 t4 t5 : TypeId} {args : Array Value} {ds : List (DataW H)} {ps : List MemPlace} (h : DataW.TrodAll enc P W base spare held [t0, t1, t2, t3, t4, t5] args.toList ds ps) :
    ∃ v0 v1 v2 v3 v4 v5 d0 d1 d2 d3 d4 d5, ∃ p0 p1 p2 p3 p4 p5 : List MemPlace, args = #[v0, v1, v2, v3, v4, v5] ∧ ds = [d0, d1, d2, d3, d4, d5] ∧ DataW.Trod enc P W base spare held t0 v0 d0 p0 ∧ DataW.Trod enc P W base spare held t1 v1 d1 p1 ∧
      DataW.Trod enc P W base spare held t2 v2 d2 p2 ∧ DataW.Trod enc P W base spare held t3 v3 d3 p3 ∧ DataW.Trod enc P W base spare held t4 v4 d4 p4 ∧ DataW.Trod enc P W base spare held t5 v5 d5 p5 := by
  obtain ⟨v0, vs0, d0, es0, p0, q0, hargs, rfl, rfl, h0, r0⟩ := trodAll_cons h
  obtain ⟨v1, vs1, d1, es1, p1, q1, rfl, rfl, rfl, h1, r1⟩ := trodAll_cons r0
  obtain ⟨v2, vs2, d2, es2, p2, q2, rfl, rfl, rfl, h2, r2⟩ := trodAll_cons r1
  obtain ⟨v3, vs3, d3, es3, p3, q3, rfl, rfl, rfl, h3, r3⟩ := trodAll_cons r2
  obtain ⟨v4, vs4, d4, es4, p4, q4, rfl, rfl, rfl, h4, r4⟩ := trodAll_cons r3
  obtain ⟨v5, vs5, d5, es5, p5, q5, rfl, rfl, rfl, h5, r5⟩ := trodAll_cons r4
  obtain ⟨rfl, rfl, rfl⟩ := trodAll_nil r5
  exact ⟨v0, v1, v2, v3, v4, v5, d0, d1, d2, d3, d4, d5, p0, p1, p2, p3, p4, p5, by cases args; simp_all, rfl, h0, h1, h2, h3, h4, h5⟩
end
end Go.Proofs.YtipikchkbmgloaaDoor
