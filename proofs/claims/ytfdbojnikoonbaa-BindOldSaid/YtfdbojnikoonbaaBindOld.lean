/- BindOld: the given statement.  Conditions: none. -/
import Derived.Test.YtfdbojnikoonbaaOld
import Derived.Test.YtfdbojnikoonbaaRow
import Derived.Test.YtfdbojnikoonbaaRows
namespace Go.Proofs.Ytfdbojnikoonbaa
set_option linter.unusedSimpArgs false
set_option linter.unusedVariables false
open Go Go.RowKit Go.ChangeShapes Go.WideShapes VC

set_option maxRecDepth 100000 in
theorem oldGives : Gives Try.prog 3 Try.f3 (Fits Try.prog Try.f3) := by
  intro H enc W base args ds ps hA hval _ _
  rw [Try.params3] at hA hval
  obtain ⟨v0, v1, d0, d1, p0, p1, rfl, rfl, rfl, h0, h1⟩ := trodAll_two hA
  obtain ⟨a, rfl, rfl, rfl, wa⟩ := open_int Try.underlying3 (hval 0 3 v0 rfl rfl) h0
  obtain ⟨p, n, c, rfl, hnc, hc, hd, hel⟩ := slice_reads Try.underlying22 (hval 1 22 v1 rfl rfl) h1
  obtain ⟨ss, hss⟩ := ints_of Try.underlying26 (by kernel_rfl) hel
  exact old_c a p n c ss W (fun i hi => (hss i hi).1)

set_option maxRecDepth 100000 in
theorem old_lifted (os : Os) (started : os.Started) (H : Type) (enc : TypeId × Value → H) :
    ReturnsInHanded {} Try.checked os 3 .any (Rows.bindOldSpec.pre6 enc Try.prog Try.f3 Rows.bindOldRow.domain false) (Rows.bindOldSpec.post enc Try.prog Try.f3 false true false false) :=
  lifted (C := Try.checked) (tb := 4) (by kernel_rfl) started (by kernel_rfl) Try.func3 (by kernel_rfl) (by kernel_rfl) (by kernel_rfl) Try.underlying4 rfl
    (fun H ds h => by match ds, h with | [_, _], _ => rfl) oldGives
    (ChangeSpec.witness6 (enc := enc) (C := Try.checked) false ⟨#[], #[.int .i64 0, .slice none 0 0], []⟩ 8 (by kernel_rfl) (by kernel_rfl) (by kernel_rfl) (by kernel_rfl))

theorem old_holds : Rows.BindOldSaid :=
  OpenClaim.holds_of_wide 3 Try.f3 rfl rfl rfl rfl rfl rfl rfl ⟨rfl, rfl, rfl, rfl, rfl⟩ rfl rfl rfl rfl rfl (by kernel_rfl) Try.func3 (by kernel_rfl)
    (of_decide_eq_true (by kernel_rfl)) (by unfold Func.isWrapper; first | (rw [if_pos (by decide +kernel)]; kernel_rfl) | (rw [if_neg (by decide +kernel)]; exact ⟨rfl, rfl⟩))
    (fun os started H enc _ => old_lifted os started H enc)
end Go.Proofs.Ytfdbojnikoonbaa
