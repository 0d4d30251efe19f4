/- RingPlays: the given statement.  Conditions: none. -/
import Derived.Test.YtlhgibiffekpfaaPlays
import Derived.Test.YtlhgibiffekpfaaRow
import Derived.Test.YtlhgibiffekpfaaRows
namespace Go.Proofs.Ytlhgibiffekpfaa
set_option linter.unusedSimpArgs false
set_option linter.unusedVariables false
open Go Go.RowKit Go.ChangeShapes Go.WideShapes VC

set_option maxRecDepth 100000 in
theorem playsGives : Gives Try.prog 6 Try.f6 (Fits Try.prog Try.f6) := by
  intro H enc W base args ds ps hA hval _ _
  rw [Try.params6] at hA hval
  obtain ⟨v0, v1, d0, d1, p0, p1, rfl, rfl, rfl, h0, h1⟩ := trodAll_two hA
  obtain ⟨a, rfl, rfl, rfl, wa⟩ := open_int Try.underlying3 (hval 0 3 v0 rfl rfl) h0
  obtain ⟨p, n, c, rfl, hnc, hc, hd, hel⟩ := slice_reads Try.underlying31 (hval 1 31 v1 rfl rfl) h1
  obtain ⟨ss, hss⟩ := ints_of Try.underlying3 (by kernel_rfl) hel
  exact plays_c a p n c ss W (fun i hi => (hss i hi).1)

set_option maxRecDepth 100000 in
theorem plays_lifted (os : Os) (started : os.Started) (H : Type) (enc : TypeId × Value → H) :
    ReturnsInHanded {} Try.checked os 6 .any (Rows.ringPlaysSpec.pre6 enc Try.prog Try.f6 Rows.ringPlaysRow.domain false) (Rows.ringPlaysSpec.post enc Try.prog Try.f6 false true false false) :=
  lifted (C := Try.checked) (tb := 4) (by kernel_rfl) started (by kernel_rfl) Try.func6 (by kernel_rfl) (by kernel_rfl) (by kernel_rfl) Try.underlying4 rfl
    (fun H ds h => by match ds, h with | [_, _], _ => rfl) playsGives
    (ChangeSpec.witness6 (enc := enc) (C := Try.checked) false ⟨#[], #[.int .i64 0, .slice none 0 0], []⟩ 8 (by kernel_rfl) (by kernel_rfl) (by kernel_rfl) (by kernel_rfl))

theorem plays_holds : Rows.RingPlaysSaid :=
  OpenClaim.holds_of_wide 6 Try.f6 rfl rfl rfl rfl rfl rfl rfl ⟨rfl, rfl, rfl, rfl, rfl⟩ rfl rfl rfl rfl rfl (by kernel_rfl) Try.func6 (by kernel_rfl)
    (of_decide_eq_true (by kernel_rfl)) (by unfold Func.isWrapper; first | (rw [if_pos (by decide +kernel)]; kernel_rfl) | (rw [if_neg (by decide +kernel)]; exact ⟨rfl, rfl⟩))
    (fun os started H enc _ => plays_lifted os started H enc)
end Go.Proofs.Ytlhgibiffekpfaa
