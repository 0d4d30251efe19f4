/- NetchanPlays: the given statement.  Conditions: none. -/
import Derived.Test.YtipikchkbmgloaaGreatDoorNetPlaysA13
namespace Go.Proofs.YtipikchkbmgloaaGreatDoor
set_option linter.unusedSimpArgs false
set_option linter.unusedVariables false
open Go Go.RowKit Go.ChangeShapes Go.WideShapes VC
set_option maxRecDepth 100000 in
theorem playsGives : GivesL Tryz.prog 3 Tryz.f3 (laidMetH Tryz.prog laidT) := by
 intro H enc W base args ds ps hA hval hfit _ hX
 rw [Tryz.params3] at hA hval
 obtain ⟨v0, d0, rfl, rfl, h0⟩ := trodAll_one hA
 obtain ⟨q, n, c, rfl, hnc, -, -, hel⟩ := slice_reads Tryz.underlying22 (hval 0 22 v0 rfl rfl) h0
 obtain ⟨l, rfl, hl⟩ := ops_in hel
 exact plays3_c (halves_of hX) hl
set_option maxRecDepth 100000 in
theorem plays_lifted (os : Os) (started : os.Started) (H : Type) (enc : TypeId × Value → H) :
  ReturnsInHanded {} Tryz.checked os 3 .any (fun w args => (Rows.netchanPlaysSpec.pre enc Tryz.prog Tryz.f3 [] false w args ∧ laidMetH Tryz.prog laidT w) ∧ sizedMet enc Tryz.prog Tryz.f3 (OpenSpec.ofChange Rows.netchanPlaysSpec) false w args)
   (Rows.netchanPlaysSpec.post enc Tryz.prog Tryz.f3 false true false false) :=
 lifted_laid (C := Tryz.checked) (tb := 4) (X := laidMetH Tryz.prog laidT) (fun _ _ hh h => h.of_heap hh) (by kernel_rfl) started (by kernel_rfl) Tryz.func3 (by kernel_rfl) (by kernel_rfl) (by kernel_rfl) Tryz.underlying4 rfl
  (fun H ds h => by match ds, h with | [_], _ => rfl) playsGives
  (ChangeSpec.witness_shaped (enc := enc) (C := Tryz.checked) (os := os) (X := fun w _ => laidMetH Tryz.prog laidT w) false (World.doorLaid Tryz.prog 400 os) #[.slice none 0 0] 8 rfl (World.shaped_of_RefB (by kernel_rfl) (by kernel_rfl)) (by kernel_rfl) (by kernel_rfl) (by kernel_rfl) (door_met os _))

theorem plays_said : Rows.NetchanPlaysSaid :=
 OpenClaim.holds_of_wide 3 Tryz.f3 rfl rfl rfl rfl rfl rfl rfl ⟨rfl, rfl, rfl, rfl, rfl⟩ rfl rfl rfl rfl rfl (by kernel_rfl) Tryz.func3 (by kernel_rfl)
  (of_decide_eq_true (by kernel_rfl)) (by unfold Func.isWrapper; first | (rw [if_pos (by decide +kernel)]; kernel_rfl) | (rw [if_neg (by decide +kernel)]; exact ⟨rfl, rfl⟩))
  (fun os started H enc _ => plays_lifted os started H enc)

theorem plays_holds : Rows.NetchanPlaysCardSaid :=
 Claim7.holds_tied_plain_at .later [] [.data] true (true, "1d77507307d91111b34a789d2848eeb0350eab5be78f959c3dd84512414684ee") false
  plays_said (fun _ h => by cases h) (by kernel_rfl) (fun _ h => by cases h) netchanPlays_row_tie rfl ⟨rfl, rfl⟩ (by kernel_rfl) rfl
  (fun f fn hf hfn => by
   obtain rfl : f = 3 := Option.some.inj ((show Tryz.prog.funcNamed "embrasure/embrasurelaw08.NetchanPlays" = some 3 by kernel_rfl).symm.trans hf) |>.symm
   obtain rfl : fn = Tryz.f3 := (Option.some.inj (Tryz.func3.symm.trans hfn)).symm
   exact ⟨by kernel_rfl, fun j t ht => by
    have hall : (Tryz.f3.params.toList.all fun t => !Tryz.prog.wantsStandIn t) = true := by kernel_rfl
    have := List.all_eq_true.1 hall t (List.mem_of_getElem? (by simpa using ht))
    show Tryz.prog.wantsStandIn t = false
    simpa using this⟩)
  (by kernel_rfl)
end Go.Proofs.YtipikchkbmgloaaGreatDoor
