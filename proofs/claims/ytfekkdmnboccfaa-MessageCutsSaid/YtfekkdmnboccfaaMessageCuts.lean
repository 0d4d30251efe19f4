/- MessageCuts: the given statement.  Conditions: none. -/
import Derived.Test.YtfekkdmnboccfaaCuts
import Derived.Test.YtfekkdmnboccfaaMsgs
import Derived.Test.YtfekkdmnboccfaaRow
import Derived.Test.YtfekkdmnboccfaaRows
namespace Go.Proofs.Ytfekkdmnboccfaa
set_option linter.unusedSimpArgs false
set_option linter.unusedVariables false
open Go Go.RowKit Go.ChangeShapes Go.WideShapes VC

set_option maxRecDepth 100000 in
theorem cutsGives : Gives Try.prog 6 Try.f6 (Fits Try.prog Try.f6) := by
  intro H enc W base args ds ps hA hval hfit _
  rw [Try.params6] at hA hval
  obtain ⟨v0, v1, v2, d0, d1, d2, p0, p1, p2, rfl, rfl, rfl, h0, h1, h2⟩ := trodAll_three hA
  obtain ⟨q0, n0, c0, rfl, hnc0, hc0, hd0, hel0⟩ := slice_reads Try.underlying22 (hval 0 22 v0 rfl rfl) h0
  obtain ⟨ms0, hn0, hin0⟩ := msgs_in hel0
  obtain ⟨b1, rfl, rfl, rfl, wb1⟩ := open_int Try.underlying3 (hval 1 3 v1 rfl rfl) h1
  obtain ⟨b2, rfl, rfl, rfl, wb2⟩ := open_int Try.underlying5 (hval 2 5 v2 rfl rfl) h2
  exact cuts_c hn0 hin0 (wf_8 wb2)

set_option maxRecDepth 100000 in
theorem cuts_lifted (os : Os) (started : os.Started) (H : Type) (enc : TypeId × Value → H) :
    ReturnsInHanded {} Try.checked os 6 .any (Rows.messageCutsSpec.pre6 enc Try.prog Try.f6 Rows.messageCutsRow.domain false) (Rows.messageCutsSpec.post enc Try.prog Try.f6 false true false false) :=
  lifted (C := Try.checked) (tb := 4) (by kernel_rfl) started (by kernel_rfl) Try.func6 (by kernel_rfl) (by kernel_rfl) (by kernel_rfl) Try.underlying4 rfl
    (fun H ds h => by match ds, h with | [_, _, _], _ => rfl) cutsGives
    (ChangeSpec.witness6 (enc := enc) (C := Try.checked) false ⟨#[], #[.slice none 0 0, .int .i64 0, .int .u8 0], []⟩ 8 (by kernel_rfl) (by kernel_rfl) (by kernel_rfl) (by kernel_rfl))

theorem cuts_holds : Rows.MessageCutsSaid :=
  OpenClaim.holds_of_wide 6 Try.f6 rfl rfl rfl rfl rfl rfl rfl ⟨rfl, rfl, rfl, rfl, rfl⟩ rfl rfl rfl rfl rfl (by kernel_rfl) Try.func6 (by kernel_rfl)
    (of_decide_eq_true (by kernel_rfl)) (by unfold Func.isWrapper; first | (rw [if_pos (by decide +kernel)]; kernel_rfl) | (rw [if_neg (by decide +kernel)]; exact ⟨rfl, rfl⟩))
    (fun os started H enc _ => cuts_lifted os started H enc)
end Go.Proofs.Ytfekkdmnboccfaa
