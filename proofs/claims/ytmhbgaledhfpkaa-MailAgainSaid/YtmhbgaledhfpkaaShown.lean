/- What 'shown' of the laws on boxes comes to: true, and nothing that was there has turned.  Conditions: none. -/
import Derived.Test.YtmhbgaledhfpkaaBoxC
namespace Go.Proofs.Ytmhbgaledhfpkaa
set_option linter.unusedSimpArgs false
set_option linter.unusedVariables false
open Go Go.RowKit Go.Conc VC
theorem VC.Fm.far {S : Nat → Prop} {a b c : World} (h : Fm none' a b) (k : Fm S b c) (hS : ∀ i, S i → a.heap.size ≤ i) : Fm none' a c := h.trans' k fun i hi hs => by have := hS i hs; omega
theorem shown_c (w : World) : callV Try.prog 7 [] w fun v w' => v = .bool true ∧ Fm none' w w' := by
  refine vc7 w _ ?_
  refine (new8_c 1 w).mono ?_
  rintro _ w1 ⟨B, C, rfl, hB, hC, hb, hf⟩
  simp only [rd, orO, binV, eqV, row24, nilV, isB, br, Option.map_some, Option.isNone_some]
  have hr : room 1 = 1 := by decide
  rw [hr] at hb
  refine (put9_c _ hb (by omega) (by omega)).mono ?_
  rintro _ w2 ⟨rfl, hb2, hf2⟩
  simp only [List.length_nil, Nat.lt_add_one, if_true, List.nil_append, decide_true] at hb2 ⊢
  refine (put9_c _ hb2 (by omega) (by omega)).mono ?_
  rintro _ w3 ⟨rfl, hb3, hf3⟩
  simp only [List.length_cons, List.length_nil, Nat.zero_add, Nat.lt_irrefl, if_false, decide_false] at hb3 ⊢
  refine (take12_c hb3).mono ?_
  rintro _ w4 ⟨rfl, hb4, hf4⟩
  simp only [isTup, List.headD_cons, List.isEmpty_cons, Bool.not_false, List.getElem?_cons_zero, List.getElem?_cons_succ]
  refine (take12_c hb4).mono ?_
  rintro _ w5 ⟨rfl, hb5, hf5⟩
  simp only [List.tail_cons, List.headD_nil, List.isEmpty_nil, Bool.not_true, List.getElem?_cons_zero, List.getElem?_cons_succ, unV, Bool.not_false, decide_true]
  refine (lost11_c hb5).mono ?_
  rintro _ _ ⟨rfl, rfl⟩
  simp only [onK, ikEq, cmpI, Option.map_some]
  refine ⟨rfl, ?_⟩
  refine ((((hf.far hf2 ?_).far hf3 ?_).far hf4 ?_).far hf5 ?_)
  · rintro i (rfl | rfl) <;> assumption
  · rintro i (rfl | rfl) <;> assumption
  · rintro i rfl; assumption
  · rintro i rfl; assumption
end Go.Proofs.Ytmhbgaledhfpkaa
