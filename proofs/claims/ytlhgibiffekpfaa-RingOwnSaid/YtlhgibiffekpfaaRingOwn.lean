/- RingOwn: the given statement.  Conditions: none. -/
import Derived.Test.YtlhgibiffekpfaaOwn
import Derived.Test.YtlhgibiffekpfaaRow
import Derived.Test.YtlhgibiffekpfaaRows
namespace Go.Proofs.Ytlhgibiffekpfaa
set_option linter.unusedSimpArgs false
set_option linter.unusedVariables false
open Go Go.RowKit Go.ChangeShapes Go.WideShapes VC

set_option maxRecDepth 100000 in
theorem ownGives : Gives Try.prog 7 Try.f7 (Fits Try.prog Try.f7) := by
  intro H enc W base args ds ps hA hval _ _
  rw [Try.params7] at hA hval
  obtain ⟨v0, d0, rfl, rfl, h0⟩ := trodAll_one hA
  obtain ⟨p, n, c, rfl, hnc, hc, hd, hel⟩ := slice_reads Try.underlying31 (hval 0 31 v0 rfl rfl) h0
  obtain ⟨ss, hss⟩ := ints_of Try.underlying3 (by kernel_rfl) hel
  exact own_c p n c ss W (fun i hi => (hss i hi).1)

set_option maxRecDepth 100000 in
theorem own_lifted (os : Os) (started : os.Started) (H : Type) (enc : TypeId × Value → H) :
    ReturnsInHanded {} Try.checked os 7 .any (Rows.ringOwnSpec.pre6 enc Try.prog Try.f7 Rows.ringOwnRow.domain false) (Rows.ringOwnSpec.post enc Try.prog Try.f7 false true false false) :=
  lifted (C := Try.checked) (tb := 4) (by kernel_rfl) started (by kernel_rfl) Try.func7 (by kernel_rfl) (by kernel_rfl) (by kernel_rfl) Try.underlying4 rfl
    (fun H ds h => by match ds, h with | [_], _ => rfl) ownGives
    (ChangeSpec.witness6 (enc := enc) (C := Try.checked) false ⟨#[], #[.slice none 0 0], []⟩ 8 (by kernel_rfl) (by kernel_rfl) (by kernel_rfl) (by kernel_rfl))

theorem own_holds : Rows.RingOwnSaid :=
  OpenClaim.holds_of_wide 7 Try.f7 rfl rfl rfl rfl rfl rfl rfl ⟨rfl, rfl, rfl, rfl, rfl⟩ rfl rfl rfl rfl rfl (by kernel_rfl) Try.func7 (by kernel_rfl)
    (of_decide_eq_true (by kernel_rfl)) (by unfold Func.isWrapper; first | (rw [if_pos (by decide +kernel)]; kernel_rfl) | (rw [if_neg (by decide +kernel)]; exact ⟨rfl, rfl⟩))
    (fun os started H enc _ => own_lifted os started H enc)
end Go.Proofs.Ytlhgibiffekpfaa
