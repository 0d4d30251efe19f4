/- MailApart: the given statement.  Conditions: none. -/
import Derived.Test.YtmhbgaledhfpkaaApart
import Derived.Test.YtmhbgaledhfpkaaOps
import Derived.Test.YtmhbgaledhfpkaaRows
namespace Go.Proofs.Ytmhbgaledhfpkaa
set_option linter.unusedSimpArgs false
set_option linter.unusedVariables false
open Go Go.RowKit Go.ChangeShapes Go.WideShapes VC

theorem apartGives : Gives Try.prog 4 Try.f4 (Fits Try.prog Try.f4) := by
  intro H enc W base args ds ps hA hval hsz _
  rw [Try.params4] at hA hval
  obtain ⟨v0, v1, v2, d0, d1, d2, p0, p1, p2, rfl, rfl, rfl, h0, h1, h2⟩ := trodAll_three hA
  obtain ⟨a, rfl, rfl, rfl, wa⟩ := open_int Try.underlying3 (hval 0 3 v0 rfl rfl) h0
  obtain ⟨b, rfl, rfl, rfl, wb⟩ := open_int Try.underlying3 (hval 1 3 v1 rfl rfl) h1
  obtain ⟨p, n, c, rfl, hnc, hc, hd, hel⟩ := slice_reads Try.underlying31 (hval 2 31 v2 rfl rfl) h2
  obtain ⟨kd, nn, hss⟩ := ops_of hel
  have hn := len_fits hsz (j := 2) (t := 31) (b := 16) (by rw [Try.params4]; rfl) rfl Try.underlying31 (by kernel_rfl) hd
  exact apart_c a b p n c kd nn W hss (by omega)

theorem apart_lifted (os : Os) (started : os.Started) (H : Type) (enc : TypeId × Value → H) :
    ReturnsInHanded {} Try.checked os 4 .any (Rows.mailApartSpec.pre6 enc Try.prog Try.f4 Rows.mailApartRow.domain false) (Rows.mailApartSpec.post enc Try.prog Try.f4 false true false false) :=
  lifted (C := Try.checked) (tb := 4) (by kernel_rfl) started (by kernel_rfl) Try.func4 (by kernel_rfl) (by kernel_rfl) (by kernel_rfl) Try.underlying4 rfl
    (fun H ds h => by match ds, h with | [_, _, _], _ => rfl) apartGives
    (ChangeSpec.witness6 (enc := enc) (C := Try.checked) false ⟨#[], #[.int .i64 0, .int .i64 0, .slice none 0 0], []⟩ 8 (by kernel_rfl) (by kernel_rfl) (by kernel_rfl) (by kernel_rfl))

theorem apart_holds : Rows.MailApartSaid :=
  OpenClaim.holds_of_wide 4 Try.f4 rfl rfl rfl rfl rfl rfl rfl ⟨rfl, rfl, rfl, rfl, rfl⟩ rfl rfl rfl rfl rfl (by kernel_rfl) Try.func4 (by kernel_rfl)
    (of_decide_eq_true (by kernel_rfl)) (by unfold Func.isWrapper; first | (rw [if_pos (by decide +kernel)]; kernel_rfl) | (rw [if_neg (by decide +kernel)]; exact ⟨rfl, rfl⟩))
    (fun os started H enc _ => apart_lifted os started H enc)
end Go.Proofs.Ytmhbgaledhfpkaa
