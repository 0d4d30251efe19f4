/- MessageReads: the given statement.  Conditions: none. -/
import Derived.Test.YtfekkdmnboccfaaReads
import Derived.Test.YtfekkdmnboccfaaMsgs
import Derived.Test.YtfekkdmnboccfaaRow
import Derived.Test.YtfekkdmnboccfaaRows
namespace Go.Proofs.Ytfekkdmnboccfaa
set_option linter.unusedSimpArgs false
set_option linter.unusedVariables false
open Go Go.RowKit Go.ChangeShapes Go.WideShapes VC

set_option maxRecDepth 100000 in
theorem readsGives : Gives Try.prog 4 Try.f4 (Fits Try.prog Try.f4) := by
  intro H enc W base args ds ps hA hval hfit _
  rw [Try.params4] at hA hval
  obtain ⟨v0, d0, rfl, rfl, h0⟩ := trodAll_one hA
  obtain ⟨q0, n0, c0, rfl, hnc0, hc0, hd0, hel0⟩ := slice_reads Try.underlying25 (hval 0 25 v0 rfl rfl) h0
  obtain ⟨ys0, hn0, hby0, hyr0⟩ := bytes_arg hel0
  exact reads_c hn0 hnc0 hby0 hyr0

set_option maxRecDepth 100000 in
theorem reads_lifted (os : Os) (started : os.Started) (H : Type) (enc : TypeId × Value → H) :
    ReturnsInHanded {} Try.checked os 4 .any (Rows.messageReadsSpec.pre6 enc Try.prog Try.f4 Rows.messageReadsRow.domain false) (Rows.messageReadsSpec.post enc Try.prog Try.f4 false true false false) :=
  lifted (C := Try.checked) (tb := 4) (by kernel_rfl) started (by kernel_rfl) Try.func4 (by kernel_rfl) (by kernel_rfl) (by kernel_rfl) Try.underlying4 rfl
    (fun H ds h => by match ds, h with | [_], _ => rfl) readsGives
    (ChangeSpec.witness6 (enc := enc) (C := Try.checked) false ⟨#[], #[.slice none 0 0], []⟩ 8 (by kernel_rfl) (by kernel_rfl) (by kernel_rfl) (by kernel_rfl))

theorem reads_holds : Rows.MessageReadsSaid :=
  OpenClaim.holds_of_wide 4 Try.f4 rfl rfl rfl rfl rfl rfl rfl ⟨rfl, rfl, rfl, rfl, rfl⟩ rfl rfl rfl rfl rfl (by kernel_rfl) Try.func4 (by kernel_rfl)
    (of_decide_eq_true (by kernel_rfl)) (by unfold Func.isWrapper; first | (rw [if_pos (by decide +kernel)]; kernel_rfl) | (rw [if_neg (by decide +kernel)]; exact ⟨rfl, rfl⟩))
    (fun os started H enc _ => reads_lifted os started H enc)
end Go.Proofs.Ytfekkdmnboccfaa
