/- RingTableOrder: the given statement.  Conditions: none. -/
import Derived.Test.YtlhgibiffekpfaaOrder
import Derived.Test.YtlhgibiffekpfaaRow
import Derived.Test.YtlhgibiffekpfaaRows
namespace Go.Proofs.Ytlhgibiffekpfaa
set_option linter.unusedSimpArgs false
set_option linter.unusedVariables false
open Go Go.RowKit Go.ChangeShapes Go.WideShapes VC

set_option maxRecDepth 100000 in
theorem orderGives : Gives Try.prog 8 Try.f8 (Fits Try.prog Try.f8) := by
  intro H enc W base args ds ps hA hval _ _
  rw [Try.params8] at hA hval
  obtain ⟨v0, v1, d0, d1, p0, p1, rfl, rfl, rfl, h0, h1⟩ := trodAll_two hA
  obtain ⟨p, n, c, rfl, hnc, hc, hd, hel⟩ := slice_reads Try.underlying31 (hval 0 31 v0 rfl rfl) h0
  obtain ⟨p2, n2, c2, rfl, hnc2, hc2, hd2, hel2⟩ := slice_reads Try.underlying42 (hval 1 42 v1 rfl rfl) h1
  obtain ⟨ss, hss⟩ := ints_of Try.underlying3 (by kernel_rfl) hel
  obtain ⟨ds', hds⟩ := ints_of Try.underlying5 (by kernel_rfl) hel2
  exact order_c p n c p2 n2 c2 ss ds' W (fun i hi => (hss i hi).1) hnc (fun i hi => (hds i hi).1) (fun i hi => by have := (hds i hi).2; simp [Lit.wf, IntKind.min, IntKind.max, IntKind.signed, IntKind.bits] at this; omega)

set_option maxRecDepth 100000 in
theorem order_lifted (os : Os) (started : os.Started) (H : Type) (enc : TypeId × Value → H) :
    ReturnsInHanded {} Try.checked os 8 .any (Rows.ringTableOrderSpec.pre6 enc Try.prog Try.f8 Rows.ringTableOrderRow.domain false) (Rows.ringTableOrderSpec.post enc Try.prog Try.f8 false true false false) :=
  lifted (C := Try.checked) (tb := 4) (by kernel_rfl) started (by kernel_rfl) Try.func8 (by kernel_rfl) (by kernel_rfl) (by kernel_rfl) Try.underlying4 rfl
    (fun H ds h => by match ds, h with | [_, _], _ => rfl) orderGives
    (ChangeSpec.witness6 (enc := enc) (C := Try.checked) false ⟨#[], #[.slice none 0 0, .slice none 0 0], []⟩ 8 (by kernel_rfl) (by kernel_rfl) (by kernel_rfl) (by kernel_rfl))

theorem order_holds : Rows.RingTableOrderSaid :=
  OpenClaim.holds_of_wide 8 Try.f8 rfl rfl rfl rfl rfl rfl rfl ⟨rfl, rfl, rfl, rfl, rfl⟩ rfl rfl rfl rfl rfl (by kernel_rfl) Try.func8 (by kernel_rfl)
    (of_decide_eq_true (by kernel_rfl)) (by unfold Func.isWrapper; first | (rw [if_pos (by decide +kernel)]; kernel_rfl) | (rw [if_neg (by decide +kernel)]; exact ⟨rfl, rfl⟩))
    (fun os started H enc _ => order_lifted os started H enc)
end Go.Proofs.Ytlhgibiffekpfaa
