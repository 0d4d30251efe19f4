/- NetchanWaits: the given statement.  Conditions: none. -/
import Derived.Test.YtipikchkbmgloaaDoorNetWaitsA11
namespace Go.Proofs.YtipikchkbmgloaaDoor
set_option linter.unusedSimpArgs false
set_option linter.unusedVariables false
open Go Go.RowKit Go.ChangeShapes Go.WideShapes VC

set_option maxRecDepth 100000 in
theorem waitsGives : GivesL Tryd.prog 7 Tryd.f7 (laidMetH Tryd.prog laidT) := by
  intro H enc W base args ds ps hA hval hfit _ hX
  have hw := fun (d : DataW H) (hd : ds[0]? = some d) => weights_at hfit (j := 0) (t := 24) (d := d) (by rw [Tryd.params7]; rfl) hd
  rw [Tryd.params7] at hA hval
  obtain ⟨v0, v1, d0, d1, p0, p1, rfl, rfl, -, h0, h1⟩ := trodAll_two hA
  obtain ⟨q, c, ms, rfl, hnc, hin, hsz⟩ := msgs_arg (hval 0 24 v0 rfl rfl) h0 (hw d0 rfl)
  obtain ⟨n, rfl, -, -, -⟩ := open_int Tryd.underlying3 (hval 1 3 v1 rfl rfl) h1
  exact waits7_c (halves_of hX) hin hsz

set_option maxRecDepth 100000 in
theorem waits_lifted (os : Os) (started : os.Started) (H : Type) (enc : TypeId × Value → H) :
    ReturnsInHanded {} Tryd.checked os 7 .any (fun w args => (Rows.netchanWaitsSpec.pre enc Tryd.prog Tryd.f7 [] false w args ∧ laidMetH Tryd.prog laidT w) ∧ sizedMet enc Tryd.prog Tryd.f7 (OpenSpec.ofChange Rows.netchanWaitsSpec) false w args)
      (Rows.netchanWaitsSpec.post enc Tryd.prog Tryd.f7 false true false false) :=
  lifted_laid (C := Tryd.checked) (tb := 4) (X := laidMetH Tryd.prog laidT) (fun _ _ hh h => h.of_heap hh) (by kernel_rfl) started (by kernel_rfl) Tryd.func7 (by kernel_rfl) (by kernel_rfl) (by kernel_rfl) Tryd.underlying4 rfl
    (fun H ds h => by match ds, h with | [_, _], _ => rfl) waitsGives
    (ChangeSpec.witness_shaped (enc := enc) (C := Tryd.checked) (os := os) (X := fun w _ => laidMetH Tryd.prog laidT w) false (World.doorLaid Tryd.prog 400 os) #[.slice none 0 0, .int .i64 0] 8 rfl (World.shaped_of_RefB (by kernel_rfl) (by kernel_rfl)) (by kernel_rfl) (by kernel_rfl) (by kernel_rfl) (door_met os _))

theorem waits_said : Rows.NetchanWaitsSaid :=
  OpenClaim.holds_of_wide 7 Tryd.f7 rfl rfl rfl rfl rfl rfl rfl ⟨rfl, rfl, rfl, rfl, rfl⟩ rfl rfl rfl rfl rfl (by kernel_rfl) Tryd.func7 (by kernel_rfl)
    (of_decide_eq_true (by kernel_rfl)) (by unfold Func.isWrapper; first | (rw [if_pos (by decide +kernel)]; kernel_rfl) | (rw [if_neg (by decide +kernel)]; exact ⟨rfl, rfl⟩))
    (fun os started H enc _ => waits_lifted os started H enc)

theorem waits_holds : Rows.NetchanWaitsCardSaid :=
  Claim7.holds_tied_plain_at .later [] [.data] true (true, "586dca9b487c5522633048d0a547127b02e1a51189e2ad36294bf85db53318d9") false
    waits_said (fun _ h => by cases h) (by kernel_rfl) (fun _ h => by cases h) netchanWaits_row_tie rfl ⟨rfl, rfl⟩ (by kernel_rfl) rfl
    (fun f fn hf hfn => by
      obtain rfl : f = 7 := Option.some.inj ((show Tryd.prog.funcNamed "embrasure/embrasurelaw08.NetchanWaits" = some 7 by kernel_rfl).symm.trans hf) |>.symm
      obtain rfl : fn = Tryd.f7 := (Option.some.inj (Tryd.func7.symm.trans hfn)).symm
      exact ⟨by kernel_rfl, fun j t ht => by
        have hall : (Tryd.f7.params.toList.all fun t => !Tryd.prog.wantsStandIn t) = true := by kernel_rfl
        have := List.all_eq_true.1 hall t (List.mem_of_getElem? (by simpa using ht))
        show Tryd.prog.wantsStandIn t = false
        simpa using this⟩)
    (by kernel_rfl)
end Go.Proofs.YtipikchkbmgloaaDoor
