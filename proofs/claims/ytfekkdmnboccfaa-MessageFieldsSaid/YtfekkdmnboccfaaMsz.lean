/- How great a message among the arguments may be.  Conditions: none. -/
import Derived.Test.YtfekkdmnboccfaaMsgs
namespace Go.Proofs.Ytfekkdmnboccfaa
set_option linter.unusedSimpArgs false
set_option linter.unusedVariables false
open Go Go.RowKit Go.ChangeShapes Go.WideShapes VC
section
variable {H : Type} {enc : TypeId × Value → H} {P : Program} {W : World}
theorem field_w {e t : TypeId} {l : List (Nat × TypeId)} {off j m : Nat} {cs : List Value} {y : DataW H × List MemPlace} (he : (row P e).k = .struct l) (hl : l[j]? = some (off, t))
    (h : DataW.trod enc P W 0 (fun _ => true) true m e cs = some y) : ∃ m' y', DataW.trod enc P W 0 (fun _ => true) true m' t ((cs.drop off).take (P.cellsOf t)) = some y' ∧ ∀ x ∈ y'.1.weights P t, x ∈ y.1.weights P e := by
  obtain ⟨i, d, hi, hd, hr⟩ := row_spec (P := P) (t := e) (by rw [he]; simp)
  rw [hr] at he
  cases d <;> simp [kOf] at he
  rename_i fs
  obtain ⟨xs, n, rfl, hy, hcl, hxl, hf⟩ := DataW.trod_struct hd h
  rw [← he, List.getElem?_map, Option.map_eq_some_iff] at hl
  obtain ⟨f, hfj, hfe⟩ := hl
  have hj' : fs[j]? = some f := by simpa using hfj
  have h2 := hf j f hj'
  have hjl : j < xs.length := by have := (Array.getElem?_eq_some_iff.1 hj').1; omega
  rw [List.getElem?_eq_getElem hjl] at h2
  cases hfe
  refine ⟨n, _, h2, fun x hx => ?_⟩
  rw [hy]
  simp only [DataW.weights, hd]
  exact DataW.weights_mem_each (j := j) (by rw [List.getElem?_map, hfj]; rfl) (by rw [List.getElem?_map, List.getElem?_eq_getElem hjl]; rfl) x hx
end
variable {H : Type} {enc : TypeId × Value → H} {W : World}
set_option maxRecDepth 100000 in
theorem msg_size {m : Msg} {q : Option Addr} {c : Nat} {d : DataW H} {ps : List MemPlace} (h : DataW.Trod enc Try.prog W 0 (fun _ => true) true 40 (.agg (msgC m q c).toArray) d ps) (hw : ∀ x ∈ d.weights Try.prog 40, x ≤ reachBytes) : m.bytes.length ≤ 140737488351232 := by
  obtain ⟨fuel, hf⟩ := h
  obtain ⟨m', y', hy, hin⟩ := field_w (e := 40) (t := 25) (off := 22) (j := 12) (by rw [row40]) rfl hf
  have k25 : Try.prog.cellsOf 25 = 1 := by kernel_rfl
  have k5 : Try.prog.cellsOf 5 = 1 := by kernel_rfl
  have u5 := int_of_row (P := Try.prog) (t := 5) (by rw [row5])
  have u25 := slice_of_row (P := Try.prog) (t := 25) (e := 5) (by rw [row25])
  have b5 : Try.prog.bytesOf 5 = 1 := by kernel_rfl
  rw [k25] at hy
  obtain ⟨p, c', ys, e, hle, -, -, -, hd⟩ := bytes_in u25 u5 k5 hy
  change [Value.slice q m.bytes.length c] = _ at e
  have e1 := (List.cons.inj e).1
  simp only [Value.slice.injEq] at e1
  rcases hd with ⟨_, h0⟩ | ⟨el, sp, hel, hc, hl⟩
  · omega
  · have := hw _ (hin ((el.length + sp.length) * Try.prog.bytesOf 5) (by rw [hel]; simp [DataW.weights, u25]))
    rw [b5] at this
    have h3 : reachBytes = 140737488351232 := rfl
    omega
end Go.Proofs.Ytfekkdmnboccfaa
