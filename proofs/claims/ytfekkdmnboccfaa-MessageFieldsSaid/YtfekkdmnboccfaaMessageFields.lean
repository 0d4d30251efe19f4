/- MessageFields: the given statement.  Conditions: none. -/
import Derived.Test.YtfekkdmnboccfaaFlds
import Derived.Test.YtfekkdmnboccfaaMsz
import Derived.Test.YtfekkdmnboccfaaRow
import Derived.Test.YtfekkdmnboccfaaRows
namespace Go.Proofs.Ytfekkdmnboccfaa
set_option linter.unusedSimpArgs false
set_option linter.unusedVariables false
open Go Go.RowKit Go.ChangeShapes Go.WideShapes VC

set_option maxRecDepth 100000 in
theorem fieldsGives : Gives Try.prog 7 Try.f7 (Fits Try.prog Try.f7) := by
  intro H enc W base args ds ps hA hval hfit _
  rw [Try.params7] at hA hval
  obtain ⟨v0, v1, v2, d0, d1, d2, p0, p1, p2, rfl, rfl, rfl, h0, h1, h2⟩ := trodAll_three hA
  obtain ⟨m0, q0, c0, rfl, hm0, hl0, hby0⟩ := msg_arg (hval 0 40 v0 rfl rfl) h0
  obtain ⟨b1, rfl, rfl, rfl, wb1⟩ := open_int Try.underlying3 (hval 1 3 v1 rfl rfl) h1
  obtain ⟨b2, rfl, rfl, rfl, wb2⟩ := open_int Try.underlying2 (hval 2 2 v2 rfl rfl) h2
  exact fields_c hm0 (msg_size h0 fun x hx => by have := List.all_eq_true.1 hfit x (DataW.weights_mem_each (j := 0) (by rw [Try.params7]; rfl) rfl x hx); simpa using this) hby0 (wf_64 wb2)

set_option maxRecDepth 100000 in
theorem fields_lifted (os : Os) (started : os.Started) (H : Type) (enc : TypeId × Value → H) :
    ReturnsInHanded {} Try.checked os 7 .any (Rows.messageFieldsSpec.pre6 enc Try.prog Try.f7 Rows.messageFieldsRow.domain false) (Rows.messageFieldsSpec.post enc Try.prog Try.f7 false true false false) :=
  lifted (C := Try.checked) (tb := 4) (by kernel_rfl) started (by kernel_rfl) Try.func7 (by kernel_rfl) (by kernel_rfl) (by kernel_rfl) Try.underlying4 rfl
    (fun H ds h => by match ds, h with | [_, _, _], _ => rfl) fieldsGives
    (ChangeSpec.witness6 (enc := enc) (C := Try.checked) false ⟨#[], #[.agg #[.int .i64 0, .int .u16 0, .int .u16 0, .int .u8 0, .int .i8 0, .int .i8 0, .int .i64 0, .int .u16 0, .int .i64 0, .int .i64 0, .int .i64 0, .int .i64 0, .int .i64 0, .int .i64 0, .int .i64 0, .int .i64 0, .int .i64 0, .int .i64 0, .int .i64 0, .int .i64 0, .int .u32 0, .int .u32 0, .slice none 0 0], .int .i64 0, .int .i64 0], []⟩ 8 (by kernel_rfl) (by kernel_rfl) (by kernel_rfl) (by kernel_rfl))

theorem fields_holds : Rows.MessageFieldsSaid :=
  OpenClaim.holds_of_wide 7 Try.f7 rfl rfl rfl rfl rfl rfl rfl ⟨rfl, rfl, rfl, rfl, rfl⟩ rfl rfl rfl rfl rfl (by kernel_rfl) Try.func7 (by kernel_rfl)
    (of_decide_eq_true (by kernel_rfl)) (by unfold Func.isWrapper; first | (rw [if_pos (by decide +kernel)]; kernel_rfl) | (rw [if_neg (by decide +kernel)]; exact ⟨rfl, rfl⟩))
    (fun os started H enc _ => fields_lifted os started H enc)
end Go.Proofs.Ytfekkdmnboccfaa
