/- RingStops: the given statement.  Conditions: none. -/
import Derived.Test.YtlhgibiffekpfaaStops
import Derived.Test.YtlhgibiffekpfaaRow
import Derived.Test.YtlhgibiffekpfaaRows
namespace Go.Proofs.Ytlhgibiffekpfaa
set_option linter.unusedSimpArgs false
set_option linter.unusedVariables false
open Go Go.RowKit Go.ChangeShapes Go.WideShapes VC

set_option maxRecDepth 100000 in
theorem stopsGives : Gives Try.prog 10 Try.f10 (Fits Try.prog Try.f10) := by
  intro H enc W base args ds ps hA hval _ _
  rw [Try.params10] at hA hval
  obtain ⟨v0, v1, d0, d1, p0, p1, rfl, rfl, rfl, h0, h1⟩ := trodAll_two hA
  obtain ⟨p, n, c, rfl, hnc, hc, hd, hel⟩ := slice_reads Try.underlying31 (hval 0 31 v0 rfl rfl) h0
  obtain ⟨a, rfl, rfl, rfl, wa⟩ := open_int Try.underlying3 (hval 1 3 v1 rfl rfl) h1
  obtain ⟨ss, hss⟩ := ints_of Try.underlying3 (by kernel_rfl) hel
  exact stops_c p n c a ss W (fun i hi => (hss i hi).1) hnc

set_option maxRecDepth 100000 in
theorem stops_lifted (os : Os) (started : os.Started) (H : Type) (enc : TypeId × Value → H) :
    ReturnsInHanded {} Try.checked os 10 .any (Rows.ringStopsSpec.pre6 enc Try.prog Try.f10 Rows.ringStopsRow.domain false) (Rows.ringStopsSpec.post enc Try.prog Try.f10 false true false false) :=
  lifted (C := Try.checked) (tb := 4) (by kernel_rfl) started (by kernel_rfl) Try.func10 (by kernel_rfl) (by kernel_rfl) (by kernel_rfl) Try.underlying4 rfl
    (fun H ds h => by match ds, h with | [_, _], _ => rfl) stopsGives
    (ChangeSpec.witness6 (enc := enc) (C := Try.checked) false ⟨#[], #[.slice none 0 0, .int .i64 0], []⟩ 8 (by kernel_rfl) (by kernel_rfl) (by kernel_rfl) (by kernel_rfl))

theorem stops_holds : Rows.RingStopsSaid :=
  OpenClaim.holds_of_wide 10 Try.f10 rfl rfl rfl rfl rfl rfl rfl ⟨rfl, rfl, rfl, rfl, rfl⟩ rfl rfl rfl rfl rfl (by kernel_rfl) Try.func10 (by kernel_rfl)
    (of_decide_eq_true (by kernel_rfl)) (by unfold Func.isWrapper; first | (rw [if_pos (by decide +kernel)]; kernel_rfl) | (rw [if_neg (by decide +kernel)]; exact ⟨rfl, rfl⟩))
    (fun os started H enc _ => stops_lifted os started H enc)
end Go.Proofs.Ytlhgibiffekpfaa
