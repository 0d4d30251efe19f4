/- A slice of operations among the arguments, read.  Conditions: none. -/
import Derived.Test.YtmhbgaledhfpkaaRow
import Derived.Test.YtmhbgaledhfpkaaTab
namespace Go.Proofs.Ytmhbgaledhfpkaa
set_option linter.unusedSimpArgs false
set_option linter.unusedVariables false
open Go Go.RowKit Go.ChangeShapes Go.WideShapes VC
theorem ops_of {H : Type} {enc : TypeId × Value → H} {W : World} {p : Option Addr} {n : Nat}
    (h : ∀ i, i < n → ∃ a cs, p = some a ∧ W.cells? 0 (a.add (i * Try.prog.cellsOf 38)) (Try.prog.cellsOf 38) = some cs ∧ ∃ m y, DataW.trod enc Try.prog W 0 (fun _ => true) true m 38 cs = some y) :
    ∃ kd nn : Nat → Int, ∀ i, i < n → (∃ ad, p = some ad ∧ W.cell? (ad.add (i * 2)) = some (.int .i64 (kd i)) ∧ W.cell? ((ad.add (i * 2)).add 1) = some (.int .i64 (nn i))) := by
  have hc : Try.prog.cellsOf 38 = 2 := by kernel_rfl
  have hc3 : Try.prog.cellsOf 3 = 1 := by kernel_rfl
  rw [hc] at h
  have : ∀ i, ∃ q : Int × Int, i < n → (∃ ad, p = some ad ∧ W.cell? (ad.add (i * 2)) = some (.int .i64 q.1) ∧ W.cell? ((ad.add (i * 2)).add 1) = some (.int .i64 q.2)) := by
    intro i
    by_cases hi : i < n
    · obtain ⟨a, cs, rfl, hcs, m, y, hy⟩ := h i hi
      obtain ⟨-, -, hcell⟩ := World.cells?_some hcs
      obtain ⟨x, hx, -⟩ := field_int (e := 38) (t := 3) (off := 0) (k := .i64) (by rw [row38]) (by simp) Try.underlying3 hc3 hy
      obtain ⟨z, hz, -⟩ := field_int (e := 38) (t := 3) (off := 1) (k := .i64) (by rw [row38]) (by simp) Try.underlying3 hc3 hy
      have h0 := hcell 0 (by omega)
      have h1 := hcell 1 (by omega)
      rw [hx] at h0
      rw [hz] at h1
      refine ⟨(x, z), fun _ => ⟨a, rfl, ?_, h1⟩⟩
      rw [← h0]
      simp [Addr.add]
    · exact ⟨(0, 0), fun h => absurd h hi⟩
  exact ⟨fun i => (this i).choose.1, fun i => (this i).choose.2, fun i => (this i).choose_spec⟩
end Go.Proofs.Ytmhbgaledhfpkaa
