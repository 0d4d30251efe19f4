/- MessageFewer: the given statement.  Conditions: none. -/
import Derived.Test.YtfekkdmnboccfaaFew
import Derived.Test.YtfekkdmnboccfaaMsgs
import Derived.Test.YtfekkdmnboccfaaRow
import Derived.Test.YtfekkdmnboccfaaRows
namespace Go.Proofs.Ytfekkdmnboccfaa
set_option linter.unusedSimpArgs false
set_option linter.unusedVariables false
open Go Go.RowKit Go.ChangeShapes Go.WideShapes VC

set_option maxRecDepth 100000 in
theorem fewerGives : Gives Try.prog 9 Try.f9 (Fits Try.prog Try.f9) := by
  intro H enc W base args ds ps hA hval _ _
  rw [Try.params9] at hA hval
  obtain ⟨v0, v1, d0, d1, p0, p1, rfl, rfl, rfl, h0, h1⟩ := trodAll_two hA
  obtain ⟨q0, n0, c0, rfl, hnc0, hc0, hd0, hel0⟩ := slice_reads Try.underlying22 (hval 0 22 v0 rfl rfl) h0
  obtain ⟨ms0, hn0, hin0⟩ := msgs_in hel0
  obtain ⟨m1, q1, c1, rfl, hm1, hl1, hby1⟩ := msg_arg (hval 1 40 v1 rfl rfl) h1
  exact fewer_c hn0 hin0 hm1 hl1 hby1

set_option maxRecDepth 100000 in
theorem fewer_lifted (os : Os) (started : os.Started) (H : Type) (enc : TypeId × Value → H) :
    ReturnsInHanded {} Try.checked os 9 .any (Rows.messageFewerSpec.pre6 enc Try.prog Try.f9 Rows.messageFewerRow.domain false) (Rows.messageFewerSpec.post enc Try.prog Try.f9 false true false false) :=
  lifted (C := Try.checked) (tb := 4) (by kernel_rfl) started (by kernel_rfl) Try.func9 (by kernel_rfl) (by kernel_rfl) (by kernel_rfl) Try.underlying4 rfl
    (fun H ds h => by match ds, h with | [_, _], _ => rfl) fewerGives
    (ChangeSpec.witness6 (enc := enc) (C := Try.checked) false ⟨#[], #[.slice none 0 0, .agg #[.int .i64 0, .int .u16 0, .int .u16 0, .int .u8 0, .int .i8 0, .int .i8 0, .int .i64 0, .int .u16 0, .int .i64 0, .int .i64 0, .int .i64 0, .int .i64 0, .int .i64 0, .int .i64 0, .int .i64 0, .int .i64 0, .int .i64 0, .int .i64 0, .int .i64 0, .int .i64 0, .int .u32 0, .int .u32 0, .slice none 0 0]], []⟩ 8 (by kernel_rfl) (by kernel_rfl) (by kernel_rfl) (by kernel_rfl))

theorem fewer_holds : Rows.MessageFewerSaid :=
  OpenClaim.holds_of_wide 9 Try.f9 rfl rfl rfl rfl rfl rfl rfl ⟨rfl, rfl, rfl, rfl, rfl⟩ rfl rfl rfl rfl rfl (by kernel_rfl) Try.func9 (by kernel_rfl)
    (of_decide_eq_true (by kernel_rfl)) (by unfold Func.isWrapper; first | (rw [if_pos (by decide +kernel)]; kernel_rfl) | (rw [if_neg (by decide +kernel)]; exact ⟨rfl, rfl⟩))
    (fun os started H enc _ => fewer_lifted os started H enc)
end Go.Proofs.Ytfekkdmnboccfaa
