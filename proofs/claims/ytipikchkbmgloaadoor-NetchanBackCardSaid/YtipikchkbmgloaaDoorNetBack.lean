/- NetchanBack: the given statement.  Conditions: none. -/
import Derived.Test.YtipikchkbmgloaaDoorNetBackA12
namespace Go.Proofs.YtipikchkbmgloaaDoor
set_option linter.unusedSimpArgs false
set_option linter.unusedVariables false
open Go Go.RowKit Go.ChangeShapes Go.WideShapes VC

set_option maxRecDepth 100000 in
theorem backGives : GivesL Tryd.prog 4 Tryd.f4 (laidMetH Tryd.prog laidT) := by
  intro H enc W base args ds ps hA hval hfit _ hX
  rw [Tryd.params4] at hA hval
  obtain ⟨v0, v1, v2, v3, v4, v5, d0, d1, d2, d3, d4, d5, p0, p1, p2, p3, p4, p5, rfl, rfl, h0, h1, h2, h3, h4, h5⟩ := trodAll_six hA
  obtain ⟨n0, rfl, -, -, w0⟩ := open_int Tryd.underlying22 (hval 0 22 v0 rfl rfl) h0
  obtain ⟨b1, rfl, -, -⟩ := open_bool Tryd.underlying4 (hval 1 4 v1 rfl rfl) h1
  obtain ⟨n2, rfl, -, -, w2⟩ := open_int Tryd.underlying22 (hval 2 22 v2 rfl rfl) h2
  obtain ⟨n3, rfl, -, -, w3⟩ := open_int Tryd.underlying23 (hval 3 23 v3 rfl rfl) h3
  obtain ⟨q4, m4, c4, rfl, hnc4, -, -, hel4⟩ := slice_reads Tryd.underlying24 (hval 4 24 v4 rfl rfl) h4
  obtain ⟨q5, m5, c5, rfl, hnc5, -, -, hel5⟩ := slice_reads Tryd.underlying25 (hval 5 25 v5 rfl rfl) h5
  obtain ⟨ms, rfl, hin⟩ := msgs_in hel4
  obtain ⟨ys, rfl, hby, hyr⟩ := bytes_arg hel5
  have r0 := wf_16 w0
  have r2 := wf_16 w2
  have r3 := wf_32 w3
  obtain ⟨k0, rfl⟩ : ∃ k : Nat, n0 = k := ⟨n0.toNat, by omega⟩
  obtain ⟨k2, rfl⟩ : ∃ k : Nat, n2 = k := ⟨n2.toNat, by omega⟩
  obtain ⟨k3, rfl⟩ : ∃ k : Nat, n3 = k := ⟨n3.toNat, by omega⟩
  exact back4_c (halves_of hX) (by omega) (by omega) (by omega) hin hnc4 hby hyr hnc5

set_option maxRecDepth 100000 in
theorem back_lifted (os : Os) (started : os.Started) (H : Type) (enc : TypeId × Value → H) :
    ReturnsInHanded {} Tryd.checked os 4 .any (fun w args => (Rows.netchanBackSpec.pre enc Tryd.prog Tryd.f4 [] false w args ∧ laidMetH Tryd.prog laidT w) ∧ sizedMet enc Tryd.prog Tryd.f4 (OpenSpec.ofChange Rows.netchanBackSpec) false w args)
      (Rows.netchanBackSpec.post enc Tryd.prog Tryd.f4 false true false false) :=
  lifted_laid (C := Tryd.checked) (tb := 4) (X := laidMetH Tryd.prog laidT) (fun _ _ hh h => h.of_heap hh) (by kernel_rfl) started (by kernel_rfl) Tryd.func4 (by kernel_rfl) (by kernel_rfl) (by kernel_rfl) Tryd.underlying4 rfl
    (fun H ds h => by match ds, h with | [_, _, _, _, _, _], _ => rfl) backGives
    (ChangeSpec.witness_shaped (enc := enc) (C := Tryd.checked) (os := os) (X := fun w _ => laidMetH Tryd.prog laidT w) false (World.doorLaid Tryd.prog 400 os) #[.int .u16 0, .bool false, .int .u16 0, .int .u32 0, .slice none 0 0, .slice none 0 0] 8 rfl (World.shaped_of_RefB (by kernel_rfl) (by kernel_rfl)) (by kernel_rfl) (by kernel_rfl) (by kernel_rfl) (door_met os _))

theorem back_said : Rows.NetchanBackSaid :=
  OpenClaim.holds_of_wide 4 Tryd.f4 rfl rfl rfl rfl rfl rfl rfl ⟨rfl, rfl, rfl, rfl, rfl⟩ rfl rfl rfl rfl rfl (by kernel_rfl) Tryd.func4 (by kernel_rfl)
    (of_decide_eq_true (by kernel_rfl)) (by unfold Func.isWrapper; first | (rw [if_pos (by decide +kernel)]; kernel_rfl) | (rw [if_neg (by decide +kernel)]; exact ⟨rfl, rfl⟩))
    (fun os started H enc _ => back_lifted os started H enc)

theorem back_holds : Rows.NetchanBackCardSaid :=
  Claim7.holds_tied_plain_at .later [] [.data] true (true, "586dca9b487c5522633048d0a547127b02e1a51189e2ad36294bf85db53318d9") false
    back_said (fun _ h => by cases h) (by kernel_rfl) (fun _ h => by cases h) netchanBack_row_tie rfl ⟨rfl, rfl⟩ (by kernel_rfl) rfl
    (fun f fn hf hfn => by
      obtain rfl : f = 4 := Option.some.inj ((show Tryd.prog.funcNamed "embrasure/embrasurelaw08.NetchanBack" = some 4 by kernel_rfl).symm.trans hf) |>.symm
      obtain rfl : fn = Tryd.f4 := (Option.some.inj (Tryd.func4.symm.trans hfn)).symm
      exact ⟨by kernel_rfl, fun j t ht => by
        have hall : (Tryd.f4.params.toList.all fun t => !Tryd.prog.wantsStandIn t) = true := by kernel_rfl
        have := List.all_eq_true.1 hall t (List.mem_of_getElem? (by simpa using ht))
        show Tryd.prog.wantsStandIn t = false
        simpa using this⟩)
    (by kernel_rfl)
end Go.Proofs.YtipikchkbmgloaaDoor
