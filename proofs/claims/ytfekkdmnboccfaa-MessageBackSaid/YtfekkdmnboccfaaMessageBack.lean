/- MessageBack: the given statement.  Conditions: none. -/
import Derived.Test.YtfekkdmnboccfaaBack
import Derived.Test.YtfekkdmnboccfaaMsgs
import Derived.Test.YtfekkdmnboccfaaRow
import Derived.Test.YtfekkdmnboccfaaRows
namespace Go.Proofs.Ytfekkdmnboccfaa
set_option linter.unusedSimpArgs false
set_option linter.unusedVariables false
open Go Go.RowKit Go.ChangeShapes Go.WideShapes VC

set_option maxRecDepth 100000 in
theorem backGives : Gives Try.prog 5 Try.f5 (Fits Try.prog Try.f5) := by
  intro H enc W base args ds ps hA hval _ _
  rw [Try.params5] at hA hval
  obtain ⟨v0, v1, d0, d1, p0, p1, rfl, rfl, rfl, h0, h1⟩ := trodAll_two hA
  obtain ⟨q0, n0, c0, rfl, hnc0, hc0, hd0, hel0⟩ := slice_reads Try.underlying22 (hval 0 22 v0 rfl rfl) h0
  obtain ⟨ms0, hn0, hin0⟩ := msgs_in hel0
  obtain ⟨q1, n1, c1, rfl, hnc1, hc1, hd1, hel1⟩ := slice_reads Try.underlying25 (hval 1 25 v1 rfl rfl) h1
  obtain ⟨ys1, hn1, hby1, hyr1⟩ := bytes_arg hel1
  exact back_c hn0 hin0 hn1 hnc1 hby1 hyr1

set_option maxRecDepth 100000 in
theorem back_lifted (os : Os) (started : os.Started) (H : Type) (enc : TypeId × Value → H) :
    ReturnsInHanded {} Try.checked os 5 .any (Rows.messageBackSpec.pre6 enc Try.prog Try.f5 Rows.messageBackRow.domain false) (Rows.messageBackSpec.post enc Try.prog Try.f5 false true false false) :=
  lifted (C := Try.checked) (tb := 4) (by kernel_rfl) started (by kernel_rfl) Try.func5 (by kernel_rfl) (by kernel_rfl) (by kernel_rfl) Try.underlying4 rfl
    (fun H ds h => by match ds, h with | [_, _], _ => rfl) backGives
    (ChangeSpec.witness6 (enc := enc) (C := Try.checked) false ⟨#[], #[.slice none 0 0, .slice none 0 0], []⟩ 8 (by kernel_rfl) (by kernel_rfl) (by kernel_rfl) (by kernel_rfl))

theorem back_holds : Rows.MessageBackSaid :=
  OpenClaim.holds_of_wide 5 Try.f5 rfl rfl rfl rfl rfl rfl rfl ⟨rfl, rfl, rfl, rfl, rfl⟩ rfl rfl rfl rfl rfl (by kernel_rfl) Try.func5 (by kernel_rfl)
    (of_decide_eq_true (by kernel_rfl)) (by unfold Func.isWrapper; first | (rw [if_pos (by decide +kernel)]; kernel_rfl) | (rw [if_neg (by decide +kernel)]; exact ⟨rfl, rfl⟩))
    (fun os started H enc _ => back_lifted os started H enc)
end Go.Proofs.Ytfekkdmnboccfaa
