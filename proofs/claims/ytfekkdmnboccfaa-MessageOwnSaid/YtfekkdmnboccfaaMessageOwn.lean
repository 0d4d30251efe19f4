/- MessageOwn: the given statement.  Conditions: none. -/
import Derived.Test.YtfekkdmnboccfaaOwn
import Derived.Test.YtfekkdmnboccfaaMsgs
import Derived.Test.YtfekkdmnboccfaaRow
import Derived.Test.YtfekkdmnboccfaaRows
namespace Go.Proofs.Ytfekkdmnboccfaa
set_option linter.unusedSimpArgs false
set_option linter.unusedVariables false
open Go Go.RowKit Go.ChangeShapes Go.WideShapes VC

set_option maxRecDepth 100000 in
theorem ownGives : Gives Try.prog 11 Try.f11 (Fits Try.prog Try.f11) := by
  intro H enc W base args ds ps hA hval _ _
  rw [Try.params11] at hA hval
  obtain ⟨v0, d0, rfl, rfl, h0⟩ := trodAll_one hA
  obtain ⟨q0, n0, c0, rfl, hnc0, hc0, hd0, hel0⟩ := slice_reads Try.underlying22 (hval 0 22 v0 rfl rfl) h0
  obtain ⟨ms0, hn0, hin0⟩ := msgs_in hel0
  exact own_c hn0 hin0

set_option maxRecDepth 100000 in
theorem own_lifted (os : Os) (started : os.Started) (H : Type) (enc : TypeId × Value → H) :
    ReturnsInHanded {} Try.checked os 11 .any (Rows.messageOwnSpec.pre6 enc Try.prog Try.f11 Rows.messageOwnRow.domain false) (Rows.messageOwnSpec.post enc Try.prog Try.f11 false true false false) :=
  lifted (C := Try.checked) (tb := 4) (by kernel_rfl) started (by kernel_rfl) Try.func11 (by kernel_rfl) (by kernel_rfl) (by kernel_rfl) Try.underlying4 rfl
    (fun H ds h => by match ds, h with | [_], _ => rfl) ownGives
    (ChangeSpec.witness6 (enc := enc) (C := Try.checked) false ⟨#[], #[.slice none 0 0], []⟩ 8 (by kernel_rfl) (by kernel_rfl) (by kernel_rfl) (by kernel_rfl))

theorem own_holds : Rows.MessageOwnSaid :=
  OpenClaim.holds_of_wide 11 Try.f11 rfl rfl rfl rfl rfl rfl rfl ⟨rfl, rfl, rfl, rfl, rfl⟩ rfl rfl rfl rfl rfl (by kernel_rfl) Try.func11 (by kernel_rfl)
    (of_decide_eq_true (by kernel_rfl)) (by unfold Func.isWrapper; first | (rw [if_pos (by decide +kernel)]; kernel_rfl) | (rw [if_neg (by decide +kernel)]; exact ⟨rfl, rfl⟩))
    (fun os started H enc _ => own_lifted os started H enc)
end Go.Proofs.Ytfekkdmnboccfaa
