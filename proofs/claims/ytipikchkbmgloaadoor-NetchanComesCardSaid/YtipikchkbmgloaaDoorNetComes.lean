/- NetchanComes: the given statement.  Conditions: none. -/
import Derived.Test.YtipikchkbmgloaaDoorNetComesA11
namespace Go.Proofs.YtipikchkbmgloaaDoor
set_option linter.unusedSimpArgs false
set_option linter.unusedVariables false
open Go Go.RowKit Go.ChangeShapes Go.WideShapes VC

theorem bools_arg {H : Type} {enc : TypeId × Value → H} {W : World} {p : Option Addr} {n : Nat} (h : ∀ i, i < n → ∃ a cs, p = some a ∧ W.cells? 0 (a.add (i * Tryd.prog.cellsOf 4)) (Tryd.prog.cellsOf 4) = some cs ∧ ∃ m y, DataW.trod enc Tryd.prog W 0 (fun _ => true) true m 4 cs = some y) :
    ∃ bs : List Bool, n = bs.length ∧ ∀ j b, bs[j]? = some b → ∃ ad, p = some ad ∧ W.cell? (ad.add j) = some (.bool b) := by
  have k4 : Tryd.prog.cellsOf 4 = 1 := by kernel_rfl
  have : ∀ i, ∃ b : Bool, i < n → ∃ ad, p = some ad ∧ W.cell? (ad.add i) = some (.bool b) := by
    intro i
    by_cases hi : i < n
    · obtain ⟨a, cs, rfl, hcs, m, y, hy⟩ := h i hi
      rw [k4, Nat.mul_one] at hcs
      obtain ⟨b, rfl, _⟩ := DataW.trod_bool Tryd.underlying4 hy
      exact ⟨b, fun _ => ⟨a, rfl, cell_of_cells?_one hcs⟩⟩
    · exact ⟨false, fun h => absurd h hi⟩
  refine ⟨(List.range n).map fun i => (this i).choose, by simp, fun j b hj => ?_⟩
  rw [List.getElem?_map, Option.map_eq_some_iff] at hj
  obtain ⟨i, hi, rfl⟩ := hj
  have hjl : j < n := by have := (List.getElem?_eq_some_iff.1 hi).1; simpa using this
  rw [List.getElem?_range hjl] at hi
  cases hi
  exact (this j).choose_spec hjl

set_option maxRecDepth 100000 in
theorem comesGives : GivesL Tryd.prog 6 Tryd.f6 (laidMetH Tryd.prog laidT) := by
  intro H enc W base args ds ps hA hval hfit _ hX
  have hw := fun (d : DataW H) (hd : ds[0]? = some d) => weights_at hfit (j := 0) (t := 24) (d := d) (by rw [Tryd.params6]; rfl) hd
  rw [Tryd.params6] at hA hval
  obtain ⟨v0, v1, d0, d1, p0, p1, rfl, rfl, -, h0, h1⟩ := trodAll_two hA
  obtain ⟨q, c, ms, rfl, hnc, hin, hsz⟩ := msgs_arg (hval 0 24 v0 rfl rfl) h0 (hw d0 rfl)
  obtain ⟨q1, n1, c1, rfl, hnc1, -, -, hel1⟩ := slice_reads Tryd.underlying55 (hval 1 55 v1 rfl rfl) h1
  obtain ⟨bs, rfl, hb⟩ := bools_arg hel1
  exact comes6_c (halves_of hX) hin hsz hb

set_option maxRecDepth 100000 in
theorem comes_lifted (os : Os) (started : os.Started) (H : Type) (enc : TypeId × Value → H) :
    ReturnsInHanded {} Tryd.checked os 6 .any (fun w args => (Rows.netchanComesSpec.pre enc Tryd.prog Tryd.f6 [] false w args ∧ laidMetH Tryd.prog laidT w) ∧ sizedMet enc Tryd.prog Tryd.f6 (OpenSpec.ofChange Rows.netchanComesSpec) false w args)
      (Rows.netchanComesSpec.post enc Tryd.prog Tryd.f6 false true false false) :=
  lifted_laid (C := Tryd.checked) (tb := 4) (X := laidMetH Tryd.prog laidT) (fun _ _ hh h => h.of_heap hh) (by kernel_rfl) started (by kernel_rfl) Tryd.func6 (by kernel_rfl) (by kernel_rfl) (by kernel_rfl) Tryd.underlying4 rfl
    (fun H ds h => by match ds, h with | [_, _], _ => rfl) comesGives
    (ChangeSpec.witness_shaped (enc := enc) (C := Tryd.checked) (os := os) (X := fun w _ => laidMetH Tryd.prog laidT w) false (World.doorLaid Tryd.prog 400 os) #[.slice none 0 0, .slice none 0 0] 8 rfl (World.shaped_of_RefB (by kernel_rfl) (by kernel_rfl)) (by kernel_rfl) (by kernel_rfl) (by kernel_rfl) (door_met os _))

theorem comes_said : Rows.NetchanComesSaid :=
  OpenClaim.holds_of_wide 6 Tryd.f6 rfl rfl rfl rfl rfl rfl rfl ⟨rfl, rfl, rfl, rfl, rfl⟩ rfl rfl rfl rfl rfl (by kernel_rfl) Tryd.func6 (by kernel_rfl)
    (of_decide_eq_true (by kernel_rfl)) (by unfold Func.isWrapper; first | (rw [if_pos (by decide +kernel)]; kernel_rfl) | (rw [if_neg (by decide +kernel)]; exact ⟨rfl, rfl⟩))
    (fun os started H enc _ => comes_lifted os started H enc)

theorem comes_holds : Rows.NetchanComesCardSaid :=
  Claim7.holds_tied_plain_at .later [] [.data] true (true, "586dca9b487c5522633048d0a547127b02e1a51189e2ad36294bf85db53318d9") false
    comes_said (fun _ h => by cases h) (by kernel_rfl) (fun _ h => by cases h) netchanComes_row_tie rfl ⟨rfl, rfl⟩ (by kernel_rfl) rfl
    (fun f fn hf hfn => by
      obtain rfl : f = 6 := Option.some.inj ((show Tryd.prog.funcNamed "embrasure/embrasurelaw08.NetchanComes" = some 6 by kernel_rfl).symm.trans hf) |>.symm
      obtain rfl : fn = Tryd.f6 := (Option.some.inj (Tryd.func6.symm.trans hfn)).symm
      exact ⟨by kernel_rfl, fun j t ht => by
        have hall : (Tryd.f6.params.toList.all fun t => !Tryd.prog.wantsStandIn t) = true := by kernel_rfl
        have := List.all_eq_true.1 hall t (List.mem_of_getElem? (by simpa using ht))
        show Tryd.prog.wantsStandIn t = false
        simpa using this⟩)
    (by kernel_rfl)
end Go.Proofs.YtipikchkbmgloaaDoor
