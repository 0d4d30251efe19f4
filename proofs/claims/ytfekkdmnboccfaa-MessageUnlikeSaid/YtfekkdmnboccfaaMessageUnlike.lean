/- MessageUnlike: the given statement.  Conditions: none. -/
import Derived.Test.YtfekkdmnboccfaaUnl
import Derived.Test.YtfekkdmnboccfaaMsgs
import Derived.Test.YtfekkdmnboccfaaRow
import Derived.Test.YtfekkdmnboccfaaRows
namespace Go.Proofs.Ytfekkdmnboccfaa
set_option linter.unusedSimpArgs false
set_option linter.unusedVariables false
open Go Go.RowKit Go.ChangeShapes Go.WideShapes VC

set_option maxRecDepth 100000 in
theorem unlikeGives : Gives Try.prog 8 Try.f8 (Fits Try.prog Try.f8) := by
  intro H enc W base args ds ps hA hval _ _
  rw [Try.params8] at hA hval
  obtain ⟨v0, v1, d0, d1, p0, p1, rfl, rfl, rfl, h0, h1⟩ := trodAll_two hA
  obtain ⟨q0, n0, c0, rfl, hnc0, hc0, hd0, hel0⟩ := slice_reads Try.underlying22 (hval 0 22 v0 rfl rfl) h0
  obtain ⟨ms0, hn0, hin0⟩ := msgs_in hel0
  obtain ⟨q1, n1, c1, rfl, hnc1, hc1, hd1, hel1⟩ := slice_reads Try.underlying22 (hval 1 22 v1 rfl rfl) h1
  obtain ⟨ms1, hn1, hin1⟩ := msgs_in hel1
  exact unlike_c hn0 hin0 hn1 hin1

set_option maxRecDepth 100000 in
theorem unlike_lifted (os : Os) (started : os.Started) (H : Type) (enc : TypeId × Value → H) :
    ReturnsInHanded {} Try.checked os 8 .any (Rows.messageUnlikeSpec.pre6 enc Try.prog Try.f8 Rows.messageUnlikeRow.domain false) (Rows.messageUnlikeSpec.post enc Try.prog Try.f8 false true false false) :=
  lifted (C := Try.checked) (tb := 4) (by kernel_rfl) started (by kernel_rfl) Try.func8 (by kernel_rfl) (by kernel_rfl) (by kernel_rfl) Try.underlying4 rfl
    (fun H ds h => by match ds, h with | [_, _], _ => rfl) unlikeGives
    (ChangeSpec.witness6 (enc := enc) (C := Try.checked) false ⟨#[], #[.slice none 0 0, .slice none 0 0], []⟩ 8 (by kernel_rfl) (by kernel_rfl) (by kernel_rfl) (by kernel_rfl))

theorem unlike_holds : Rows.MessageUnlikeSaid :=
  OpenClaim.holds_of_wide 8 Try.f8 rfl rfl rfl rfl rfl rfl rfl ⟨rfl, rfl, rfl, rfl, rfl⟩ rfl rfl rfl rfl rfl (by kernel_rfl) Try.func8 (by kernel_rfl)
    (of_decide_eq_true (by kernel_rfl)) (by unfold Func.isWrapper; first | (rw [if_pos (by decide +kernel)]; kernel_rfl) | (rw [if_neg (by decide +kernel)]; exact ⟨rfl, rfl⟩))
    (fun os started H enc _ => unlike_lifted os started H enc)
end Go.Proofs.Ytfekkdmnboccfaa
