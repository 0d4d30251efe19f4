/- RingTablePlays: the given statement.  Conditions: none. -/
import Derived.Test.YtlhgibiffekpfaaTPlays
import Derived.Test.YtlhgibiffekpfaaRow
import Derived.Test.YtlhgibiffekpfaaRows
namespace Go.Proofs.Ytlhgibiffekpfaa
set_option linter.unusedSimpArgs false
set_option linter.unusedVariables false
open Go Go.RowKit Go.ChangeShapes Go.WideShapes VC
theorem steps_of {H : Type} {enc : TypeId × Value → H} {W : World} {p : Option Addr} {n : Nat}
    (h : ∀ i, i < n → ∃ a cs, p = some a ∧ W.cells? 0 (a.add (i * Try.prog.cellsOf 75)) (Try.prog.cellsOf 75) = some cs ∧ ∃ m y, DataW.trod enc Try.prog W 0 (fun _ => true) true m 75 cs = some y) :
    ∃ ss : Nat → Int × Int × Int, ∀ i, i < n → ∃ ad, p = some ad ∧ cellsAt W (ad.add (i * 3)) 3 = some [.int .i64 (ss i).1, .int .i64 (ss i).2.1, .int .i64 (ss i).2.2] := by
  have hc : Try.prog.cellsOf 75 = 3 := by kernel_rfl
  have hc3 : Try.prog.cellsOf 3 = 1 := by kernel_rfl
  rw [hc] at h
  have : ∀ i, ∃ q : Int × Int × Int, i < n → ∃ ad, p = some ad ∧ cellsAt W (ad.add (i * 3)) 3 = some [.int .i64 q.1, .int .i64 q.2.1, .int .i64 q.2.2] := by
    intro i
    by_cases hi : i < n
    · obtain ⟨a, cs, rfl, hcs, m, y, hy⟩ := h i hi
      obtain ⟨-, -, hcell⟩ := World.cells?_some hcs
      obtain ⟨x0, h0, -⟩ := field_int (e := 75) (t := 3) (off := 0) (k := .i64) (by rw [row75]) (by simp) Try.underlying3 hc3 hy
      obtain ⟨x1, h1, -⟩ := field_int (e := 75) (t := 3) (off := 1) (k := .i64) (by rw [row75]) (by simp) Try.underlying3 hc3 hy
      obtain ⟨x2, h2, -⟩ := field_int (e := 75) (t := 3) (off := 2) (k := .i64) (by rw [row75]) (by simp) Try.underlying3 hc3 hy
      have e0 := hcell 0 (by omega)
      have e1 := hcell 1 (by omega)
      have e2 := hcell 2 (by omega)
      rw [h0] at e0
      rw [h1] at e1
      rw [h2] at e2
      exact ⟨(x0, x1, x2), fun _ => ⟨a, rfl, by simp [cellsAt, e0, e1, e2]⟩⟩
    · exact ⟨(0, 0, 0), fun h => absurd h hi⟩
  exact ⟨fun i => (this i).choose, fun i => (this i).choose_spec⟩

set_option maxRecDepth 100000 in
theorem tplaysGives : Gives Try.prog 9 Try.f9 (Fits Try.prog Try.f9) := by
  intro H enc W base args ds ps hA hval _ _
  rw [Try.params9] at hA hval
  obtain ⟨v0, v1, d0, d1, p0, p1, rfl, rfl, rfl, h0, h1⟩ := trodAll_two hA
  obtain ⟨a, rfl, rfl, rfl, wa⟩ := open_int Try.underlying3 (hval 0 3 v0 rfl rfl) h0
  obtain ⟨p, n, c, rfl, hnc, hc, hd, hel⟩ := slice_reads Try.underlying69 (hval 1 69 v1 rfl rfl) h1
  obtain ⟨ss, hss⟩ := steps_of hel
  exact tplays_c a p n c ss W hss

set_option maxRecDepth 100000 in
theorem tplays_lifted (os : Os) (started : os.Started) (H : Type) (enc : TypeId × Value → H) :
    ReturnsInHanded {} Try.checked os 9 .any (Rows.ringTablePlaysSpec.pre6 enc Try.prog Try.f9 Rows.ringTablePlaysRow.domain false) (Rows.ringTablePlaysSpec.post enc Try.prog Try.f9 false true false false) :=
  lifted (C := Try.checked) (tb := 4) (by kernel_rfl) started (by kernel_rfl) Try.func9 (by kernel_rfl) (by kernel_rfl) (by kernel_rfl) Try.underlying4 rfl
    (fun H ds h => by match ds, h with | [_, _], _ => rfl) tplaysGives
    (ChangeSpec.witness6 (enc := enc) (C := Try.checked) false ⟨#[], #[.int .i64 0, .slice none 0 0], []⟩ 8 (by kernel_rfl) (by kernel_rfl) (by kernel_rfl) (by kernel_rfl))

theorem tplays_holds : Rows.RingTablePlaysSaid :=
  OpenClaim.holds_of_wide 9 Try.f9 rfl rfl rfl rfl rfl rfl rfl ⟨rfl, rfl, rfl, rfl, rfl⟩ rfl rfl rfl rfl rfl (by kernel_rfl) Try.func9 (by kernel_rfl)
    (of_decide_eq_true (by kernel_rfl)) (by unfold Func.isWrapper; first | (rw [if_pos (by decide +kernel)]; kernel_rfl) | (rw [if_neg (by decide +kernel)]; exact ⟨rfl, rfl⟩))
    (fun os started H enc _ => tplays_lifted os started H enc)
end Go.Proofs.Ytlhgibiffekpfaa
