/- BindTwice: the given statement.  Conditions: none. -/
import Derived.Test.YtfdbojnikoonbaaTwice
import Derived.Test.YtfdbojnikoonbaaOpsOf
import Derived.Test.YtfdbojnikoonbaaRow
import Derived.Test.YtfdbojnikoonbaaRows
namespace Go.Proofs.Ytfdbojnikoonbaa
set_option linter.unusedSimpArgs false
set_option linter.unusedVariables false
open Go Go.RowKit Go.ChangeShapes Go.WideShapes VC

set_option maxRecDepth 100000 in
theorem twiceGives : Gives Try.prog 5 Try.f5 (Fits Try.prog Try.f5) := by
  intro H enc W base args ds ps hA hval _ _
  rw [Try.params5] at hA hval
  obtain ⟨v0, d0, rfl, rfl, h0⟩ := trodAll_one hA
  obtain ⟨p, n, c, rfl, hnc, hc, hd, hel⟩ := slice_reads Try.underlying33 (hval 0 33 v0 rfl rfl) h0
  obtain ⟨K, C, Pv, D, hss⟩ := ops_of hel
  exact twice_c p n c K C Pv D W (fun i hi => by obtain ⟨ad, h1, h2, _⟩ := hss i hi; exact ⟨ad, h1, h2⟩)

set_option maxRecDepth 100000 in
theorem twice_lifted (os : Os) (started : os.Started) (H : Type) (enc : TypeId × Value → H) :
    ReturnsInHanded {} Try.checked os 5 .any (Rows.bindTwiceSpec.pre6 enc Try.prog Try.f5 Rows.bindTwiceRow.domain false) (Rows.bindTwiceSpec.post enc Try.prog Try.f5 false true false false) :=
  lifted (C := Try.checked) (tb := 4) (by kernel_rfl) started (by kernel_rfl) Try.func5 (by kernel_rfl) (by kernel_rfl) (by kernel_rfl) Try.underlying4 rfl
    (fun H ds h => by match ds, h with | [_], _ => rfl) twiceGives
    (ChangeSpec.witness6 (enc := enc) (C := Try.checked) false ⟨#[], #[.slice none 0 0], []⟩ 8 (by kernel_rfl) (by kernel_rfl) (by kernel_rfl) (by kernel_rfl))

theorem twice_holds : Rows.BindTwiceSaid :=
  OpenClaim.holds_of_wide 5 Try.f5 rfl rfl rfl rfl rfl rfl rfl ⟨rfl, rfl, rfl, rfl, rfl⟩ rfl rfl rfl rfl rfl (by kernel_rfl) Try.func5 (by kernel_rfl)
    (of_decide_eq_true (by kernel_rfl)) (by unfold Func.isWrapper; first | (rw [if_pos (by decide +kernel)]; kernel_rfl) | (rw [if_neg (by decide +kernel)]; exact ⟨rfl, rfl⟩))
    (fun os started H enc _ => twice_lifted os started H enc)
end Go.Proofs.Ytfdbojnikoonbaa
