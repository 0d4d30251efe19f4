/- BindOnce: the given statement.  Conditions: none. -/
import Derived.Test.YtfdbojnikoonbaaBOnce
import Derived.Test.YtfdbojnikoonbaaOpsOf
import Derived.Test.YtfdbojnikoonbaaRow
import Derived.Test.YtfdbojnikoonbaaRows
namespace Go.Proofs.Ytfdbojnikoonbaa
set_option linter.unusedSimpArgs false
set_option linter.unusedVariables false
open Go Go.RowKit Go.ChangeShapes Go.WideShapes VC

set_option maxRecDepth 100000 in
theorem onceGives : Gives Try.prog 4 Try.f4 (Fits Try.prog Try.f4) := by
  intro H enc W base args ds ps hA hval _ _
  rw [Try.params4] at hA hval
  obtain ⟨v0, d0, rfl, rfl, h0⟩ := trodAll_one hA
  obtain ⟨p, n, c, rfl, hnc, hc, hd, hel⟩ := slice_reads Try.underlying33 (hval 0 33 v0 rfl rfl) h0
  obtain ⟨K, C, Pv, D, hss⟩ := ops_of hel
  exact bonce_c p n c K C Pv D W (fun i hi => by obtain ⟨ad, h1, h2, _⟩ := hss i hi; exact ⟨ad, h1, h2⟩)

set_option maxRecDepth 100000 in
theorem once_lifted (os : Os) (started : os.Started) (H : Type) (enc : TypeId × Value → H) :
    ReturnsInHanded {} Try.checked os 4 .any (Rows.bindOnceSpec.pre6 enc Try.prog Try.f4 Rows.bindOnceRow.domain false) (Rows.bindOnceSpec.post enc Try.prog Try.f4 false true false false) :=
  lifted (C := Try.checked) (tb := 4) (by kernel_rfl) started (by kernel_rfl) Try.func4 (by kernel_rfl) (by kernel_rfl) (by kernel_rfl) Try.underlying4 rfl
    (fun H ds h => by match ds, h with | [_], _ => rfl) onceGives
    (ChangeSpec.witness6 (enc := enc) (C := Try.checked) false ⟨#[], #[.slice none 0 0], []⟩ 8 (by kernel_rfl) (by kernel_rfl) (by kernel_rfl) (by kernel_rfl))

theorem once_holds : Rows.BindOnceSaid :=
  OpenClaim.holds_of_wide 4 Try.f4 rfl rfl rfl rfl rfl rfl rfl ⟨rfl, rfl, rfl, rfl, rfl⟩ rfl rfl rfl rfl rfl (by kernel_rfl) Try.func4 (by kernel_rfl)
    (of_decide_eq_true (by kernel_rfl)) (by unfold Func.isWrapper; first | (rw [if_pos (by decide +kernel)]; kernel_rfl) | (rw [if_neg (by decide +kernel)]; exact ⟨rfl, rfl⟩))
    (fun os started H enc _ => once_lifted os started H enc)
end Go.Proofs.Ytfdbojnikoonbaa
