/- A slice of operations among the arguments, read.  Conditions: none. -/
import Derived.Test.YtfdbojnikoonbaaRow
import Derived.Test.YtfdbojnikoonbaaTab
namespace Go.Proofs.Ytfdbojnikoonbaa
set_option linter.unusedSimpArgs false
set_option linter.unusedVariables false
open Go Go.RowKit Go.ChangeShapes Go.WideShapes VC
theorem ops_of {H : Type} {enc : TypeId × Value → H} {W : World} {p : Option Addr} {n : Nat}
    (h : ∀ i, i < n → ∃ a cs, p = some a ∧ W.cells? 0 (a.add (i * Try.prog.cellsOf 35)) (Try.prog.cellsOf 35) = some cs ∧ ∃ m y, DataW.trod enc Try.prog W 0 (fun _ => true) true m 35 cs = some y) :
    ∃ K C Pv D : Nat → Int, ∀ i, i < n → ∃ ad, p = some ad ∧ cellsAt W (ad.add (i * 4)) 4 = some [.int .i64 (K i), .int .i64 (C i), .int .u16 (Pv i), .int .i64 (D i)] ∧ (Lit.int .u16 (Pv i)).wf = true ∧ (Lit.int .i64 (D i)).wf = true := by
  have hc : Try.prog.cellsOf 35 = 4 := by kernel_rfl
  have hc3 : Try.prog.cellsOf 3 = 1 := by kernel_rfl
  have hc26 : Try.prog.cellsOf 26 = 1 := by kernel_rfl
  rw [hc] at h
  have : ∀ i, ∃ q : Int × Int × Int × Int, i < n → (∃ ad, p = some ad ∧ cellsAt W (ad.add (i * 4)) 4 = some [.int .i64 q.1, .int .i64 q.2.1, .int .u16 q.2.2.1, .int .i64 q.2.2.2] ∧ (Lit.int .u16 q.2.2.1).wf = true ∧ (Lit.int .i64 q.2.2.2).wf = true) := by
    intro i
    by_cases hi : i < n
    · obtain ⟨a, cs, rfl, hcs, m, y, hy⟩ := h i hi
      obtain ⟨-, -, hcell⟩ := World.cells?_some hcs
      obtain ⟨x0, h0, -⟩ := field_int (e := 35) (t := 3) (off := 0) (k := .i64) (by rw [row35]) (by simp) Try.underlying3 hc3 hy
      obtain ⟨x1, h1, -⟩ := field_int (e := 35) (t := 3) (off := 1) (k := .i64) (by rw [row35]) (by simp) Try.underlying3 hc3 hy
      obtain ⟨x2, h2, w2⟩ := field_int (e := 35) (t := 26) (off := 2) (k := .u16) (by rw [row35]) (by simp) Try.underlying26 hc26 hy
      obtain ⟨x3, h3, w3⟩ := field_int (e := 35) (t := 3) (off := 3) (k := .i64) (by rw [row35]) (by simp) Try.underlying3 hc3 hy
      have e0 := hcell 0 (by omega)
      have e1 := hcell 1 (by omega)
      have e2 := hcell 2 (by omega)
      have e3 := hcell 3 (by omega)
      rw [h0] at e0
      rw [h1] at e1
      rw [h2] at e2
      rw [h3] at e3
      exact ⟨(x0, x1, x2, x3), fun _ => ⟨a, rfl, by simp [cellsAt, e0, e1, e2, e3], w2, w3⟩⟩
    · exact ⟨(0, 0, 0, 0), fun h => absurd h hi⟩
  exact ⟨fun i => (this i).choose.1, fun i => (this i).choose.2.1, fun i => (this i).choose.2.2.1, fun i => (this i).choose.2.2.2, fun i => (this i).choose_spec⟩
end Go.Proofs.Ytfdbojnikoonbaa
