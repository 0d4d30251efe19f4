/- NetchanOnce: the given statement.  Conditions: none. -/
import Derived.Test.YtipikchkbmgloaaDoorNetOnceA12
namespace Go.Proofs.YtipikchkbmgloaaDoor
set_option linter.unusedSimpArgs false
set_option linter.unusedVariables false
open Go Go.RowKit Go.ChangeShapes Go.WideShapes VC

theorem ints_arg {H : Type} {enc : TypeId × Value → H} {W : World} {p : Option Addr} {n : Nat} (h : ∀ i, i < n → ∃ a cs, p = some a ∧ W.cells? 0 (a.add (i * Tryd.prog.cellsOf 3)) (Tryd.prog.cellsOf 3) = some cs ∧ ∃ m y, DataW.trod enc Tryd.prog W 0 (fun _ => true) true m 3 cs = some y) :
    ∃ os : List Int, n = os.length ∧ ∀ j x, os[j]? = some x → (∃ ad, p = some ad ∧ W.cell? (ad.add j) = some (.int .i64 x)) ∧ I64 x := by
  have k3 : Tryd.prog.cellsOf 3 = 1 := by kernel_rfl
  obtain ⟨ss, hss⟩ := ints_of Tryd.underlying3 k3 h
  refine ⟨(List.range n).map ss, by simp, fun j y hj => ?_⟩
  rw [List.getElem?_map, Option.map_eq_some_iff] at hj
  obtain ⟨i, hi, rfl⟩ := hj
  have hjl : j < n := by have := (List.getElem?_eq_some_iff.1 hi).1; simpa using this
  rw [List.getElem?_range hjl] at hi
  cases hi
  exact ⟨(hss _ hjl).1, wf_64 (hss _ hjl).2⟩

set_option maxRecDepth 100000 in
theorem onceGives : GivesL Tryd.prog 5 Tryd.f5 (laidMetH Tryd.prog laidT) := by
  intro H enc W base args ds ps hA hval hfit _ hX
  have hw := fun (d : DataW H) (hd : ds[0]? = some d) => weights_at hfit (j := 0) (t := 24) (d := d) (by rw [Tryd.params5]; rfl) hd
  rw [Tryd.params5] at hA hval
  obtain ⟨v0, v1, v2, d0, d1, d2, p0, p1, p2, rfl, rfl, -, h0, h1, h2⟩ := trodAll_three hA
  obtain ⟨q, c, ms, rfl, hnc, hin, hsz⟩ := msgs_arg (hval 0 24 v0 rfl rfl) h0 (hw d0 rfl)
  obtain ⟨q1, n1, c1, rfl, hnc1, -, -, hel1⟩ := slice_reads Tryd.underlying42 (hval 1 42 v1 rfl rfl) h1
  obtain ⟨q2, n2, c2, rfl, hnc2, -, -, hel2⟩ := slice_reads Tryd.underlying25 (hval 2 25 v2 rfl rfl) h2
  obtain ⟨os, rfl, hos⟩ := ints_arg hel1
  obtain ⟨ts, rfl, ht, htr⟩ := bytes_arg hel2
  exact once5_c (halves_of hX) hin hsz hos ht htr

set_option maxRecDepth 100000 in
theorem once_lifted (os : Os) (started : os.Started) (H : Type) (enc : TypeId × Value → H) :
    ReturnsInHanded {} Tryd.checked os 5 .any (fun w args => (Rows.netchanOnceSpec.pre enc Tryd.prog Tryd.f5 [] false w args ∧ laidMetH Tryd.prog laidT w) ∧ sizedMet enc Tryd.prog Tryd.f5 (OpenSpec.ofChange Rows.netchanOnceSpec) false w args)
      (Rows.netchanOnceSpec.post enc Tryd.prog Tryd.f5 false true false false) :=
  lifted_laid (C := Tryd.checked) (tb := 4) (X := laidMetH Tryd.prog laidT) (fun _ _ hh h => h.of_heap hh) (by kernel_rfl) started (by kernel_rfl) Tryd.func5 (by kernel_rfl) (by kernel_rfl) (by kernel_rfl) Tryd.underlying4 rfl
    (fun H ds h => by match ds, h with | [_, _, _], _ => rfl) onceGives
    (ChangeSpec.witness_shaped (enc := enc) (C := Tryd.checked) (os := os) (X := fun w _ => laidMetH Tryd.prog laidT w) false (World.doorLaid Tryd.prog 400 os) #[.slice none 0 0, .slice none 0 0, .slice none 0 0] 8 rfl (World.shaped_of_RefB (by kernel_rfl) (by kernel_rfl)) (by kernel_rfl) (by kernel_rfl) (by kernel_rfl) (door_met os _))

theorem once_said : Rows.NetchanOnceSaid :=
  OpenClaim.holds_of_wide 5 Tryd.f5 rfl rfl rfl rfl rfl rfl rfl ⟨rfl, rfl, rfl, rfl, rfl⟩ rfl rfl rfl rfl rfl (by kernel_rfl) Tryd.func5 (by kernel_rfl)
    (of_decide_eq_true (by kernel_rfl)) (by unfold Func.isWrapper; first | (rw [if_pos (by decide +kernel)]; kernel_rfl) | (rw [if_neg (by decide +kernel)]; exact ⟨rfl, rfl⟩))
    (fun os started H enc _ => once_lifted os started H enc)

theorem once_holds : Rows.NetchanOnceCardSaid :=
  Claim7.holds_tied_plain_at .later [] [.data] true (true, "586dca9b487c5522633048d0a547127b02e1a51189e2ad36294bf85db53318d9") false
    once_said (fun _ h => by cases h) (by kernel_rfl) (fun _ h => by cases h) netchanOnce_row_tie rfl ⟨rfl, rfl⟩ (by kernel_rfl) rfl
    (fun f fn hf hfn => by
      obtain rfl : f = 5 := Option.some.inj ((show Tryd.prog.funcNamed "embrasure/embrasurelaw08.NetchanOnce" = some 5 by kernel_rfl).symm.trans hf) |>.symm
      obtain rfl : fn = Tryd.f5 := (Option.some.inj (Tryd.func5.symm.trans hfn)).symm
      exact ⟨by kernel_rfl, fun j t ht => by
        have hall : (Tryd.f5.params.toList.all fun t => !Tryd.prog.wantsStandIn t) = true := by kernel_rfl
        have := List.all_eq_true.1 hall t (List.mem_of_getElem? (by simpa using ht))
        show Tryd.prog.wantsStandIn t = false
        simpa using this⟩)
    (by kernel_rfl)
end Go.Proofs.YtipikchkbmgloaaDoor
