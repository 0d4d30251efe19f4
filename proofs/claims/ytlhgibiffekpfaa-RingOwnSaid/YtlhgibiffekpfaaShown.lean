/- shown of package embrasurelaw02 comes to true and turns nothing that was there.  Conditions: none. -/
import Derived.Test.YtlhgibiffekpfaaTbl
import Derived.Test.YtlhgibiffekpfaaRng
import Derived.Test.YtlhgibiffekpfaaC2
namespace Go.Proofs.Ytlhgibiffekpfaa
set_option linter.unusedSimpArgs false
set_option linter.unusedVariables false
open Go Go.RowKit VC
theorem TabAt.no_row {α : Type} {enc : α → Value} {T e : TypeId} {w : World} {B M base i : Nat} {most last : Int} {l : List (Int × α)} (h : TabAt enc T w B M most last l) (hT : T ≠ e) (hr : rowsOf e w base i) : i ≠ B ∧ i ≠ M := by
  obtain ⟨h1, es, clock, h2, _⟩ := h
  obtain ⟨_, cur, hc⟩ := hr
  constructor
  · rintro rfl; rw [h1] at hc; cases hc; exact hT rfl
  · rintro rfl; rw [h2] at hc; cases hc
theorem RingAt.no_row {α : Type} {enc : α → Value} {T e e' : TypeId} {w : World} {R base base' i : Nat} {most : Int} {buf : List α} (h : RingAt enc T e w base R most buf) (hT : T ≠ e') (hr : rowsOf e' w base' i) : i ≠ R := by
  obtain ⟨s, raw, f, h1, _⟩ := h
  obtain ⟨_, cur, hc⟩ := hr
  rintro rfl; rw [h1] at hc; cases hc; exact hT rfl
theorem TabAt.ring_ne {α β : Type} {enc : α → Value} {enc' : β → Value} {T T' e : TypeId} {w : World} {B M R base : Nat} {most last most' : Int} {l : List (Int × α)} {buf : List β} (h : TabAt enc T w B M most last l) (hr : RingAt enc' T' e w base R most' buf) (hT : T ≠ T') : R ≠ B ∧ R ≠ M := by
  obtain ⟨h1, es, clock, h2, _⟩ := h
  obtain ⟨s, raw, f, hc, _⟩ := hr
  constructor
  · rintro rfl; rw [h1] at hc; cases hc; first | done | exact hT rfl
  · rintro rfl; rw [h2] at hc; cases hc
set_option maxRecDepth 20000 in
theorem shown_c (w : World) : callV Try.prog 11 [] w fun v w' => v = .bool true ∧ Fm none' w w' := by
  refine vc11 w _ ?_
  refine (new12_c 2 w w.heap.size).mono ?_
  rintro _ w1 ⟨R, rfl, hR, hr, hf1⟩
  simp only [isB_i, isK_i, isP_i, isTup_i, isInt_i, isSl_i, isPtr_i, isCs_i, isStr_i, isFn_i, isIf_i, rd_i, br_t, br_f, orO_s, orO_n, gd_t, bv_add, bv_sub, bv_mul, bv_eql, bv_neq, bv_lss, bv_leq, bv_gtr, bv_geq, bv_quo, bv_rem, bv_shl, bv_shr, bv_seq, bv_sne, bv_ptr, bv_if, bv_map, bv_nf, bv_bool, bv_sl, bv_fn, uv_not, uv_neg, eqV, nilV, nc_ptr, nc_fn, nc_if, Option.map_some, toN, Nat.mul_one, implies_true, true_and, and_true, and_self]
  refine (new22_c 1 w1).mono ?_
  rintro _ w4 ⟨B, M, rfl, hB, hM, ht, hf4⟩
  have hs1 := hf1.size
  have hr := hr.keep hf4 id (fun _ _ => id)
  have hF4 := hf1.trans hf4
  simp only [isB_i, isK_i, isP_i, isTup_i, isInt_i, isSl_i, isPtr_i, isCs_i, isStr_i, isFn_i, isIf_i, rd_i, br_t, br_f, orO_s, orO_n, gd_t, bv_add, bv_sub, bv_mul, bv_eql, bv_neq, bv_lss, bv_leq, bv_gtr, bv_geq, bv_quo, bv_rem, bv_shl, bv_shr, bv_seq, bv_sne, bv_ptr, bv_if, bv_map, bv_nf, bv_bool, bv_sl, bv_fn, uv_not, uv_neg, eqV, nilV, nc_ptr, nc_fn, nc_if, Option.map_some, toN, Nat.mul_one, implies_true, true_and, and_true, and_self, Option.isNone_some]
  -- ring steps
  have rstep : ∀ {w0 w' : World} {mo la : Int} {bf : List ByteArray} {l : List (Int × ByteArray)}, Fm none' w w0 → TabAt Value.string 88 w0 B M mo la l → RingAt Value.string 82 9 w0 w.heap.size R 2 bf → Fm (fun i => i = R ∨ rowsOf 9 w0 w.heap.size i) w0 w' → TabAt Value.string 88 w' B M mo la l ∧ Fm none' w w' := by
    intro w0 w' mo la bf l hF ht hr hf
    have hne := ht.ring_ne hr (by decide)
    refine ⟨ht.keep hf ?_ ?_, hF.trans' hf ?_⟩
    · rintro (e | e); exact hne.1 e.symm; exact (ht.no_row (by decide) e).1 rfl
    · rintro (e | e); exact hne.2 e.symm; exact (ht.no_row (by decide) e).2 rfl
    · rintro i hi (rfl | e); omega; have := e.1; omega
  have tstep : ∀ {w0 w' : World} {mo la : Int} {bf : List ByteArray} {l : List (Int × ByteArray)}, Fm none' w w0 → TabAt Value.string 88 w0 B M mo la l → RingAt Value.string 82 9 w0 w.heap.size R 2 bf → Fm (fun i => i = B ∨ i = M) w0 w' → RingAt Value.string 82 9 w' w.heap.size R 2 bf ∧ Fm none' w w' := by
    intro w0 w' mo la bf l hF ht hr hf
    have hne := ht.ring_ne hr (by decide)
    refine ⟨hr.keep hf ?_ ?_, hF.trans' hf ?_⟩
    · rintro (e | e); exact hne.1 e; exact hne.2 e
    · rintro i hi (e | e); exact (ht.no_row (by decide) hi).1 e; exact (ht.no_row (by decide) hi).2 e
    · rintro i hi (rfl | rfl) <;> omega
  refine (push13_c _ hr (by simp) hF4.size (by omega)).mono ?_
  rintro _ w7 ⟨rfl, hr7, hf7⟩
  obtain ⟨ht7, hF7⟩ := rstep hF4 ht hr hf7
  rw [if_pos (by decide)] at hr7
  refine (push13_c _ hr7 (by simp) hF7.size (by omega)).mono ?_
  rintro _ w9 ⟨rfl, hr9, hf9⟩
  obtain ⟨ht9, hF9⟩ := rstep hF7 ht7 hr7 hf9
  rw [if_pos (by decide)] at hr9
  refine (push13_c _ hr9 (by simp) hF9.size (by omega)).mono ?_
  rintro _ w11 ⟨rfl, hr11, hf11⟩
  obtain ⟨ht11, hF11⟩ := rstep hF9 ht9 hr9 hf11
  rw [if_neg (by decide)] at hr11 ⊢
  simp only [isB_i, isK_i, isP_i, isTup_i, isInt_i, isSl_i, isPtr_i, isCs_i, isStr_i, isFn_i, isIf_i, rd_i, br_t, br_f, orO_s, orO_n, gd_t, bv_add, bv_sub, bv_mul, bv_eql, bv_neq, bv_lss, bv_leq, bv_gtr, bv_geq, bv_quo, bv_rem, bv_shl, bv_shr, bv_seq, bv_sne, bv_ptr, bv_if, bv_map, bv_nf, bv_bool, bv_sl, bv_fn, uv_not, uv_neg, eqV, nilV, nc_ptr, nc_fn, nc_if, Option.map_some, toN, Nat.mul_one, implies_true, true_and, and_true, and_self, List.getElem?_cons_zero, List.getElem?_cons_succ, List.nil_append, List.cons_append, List.headD_cons, List.tail_cons] at hr11 ⊢
  refine (at15_c 0 hr11 (by simp)).mono ?_
  rintro _ w19 ⟨rfl, hf19⟩
  rw [if_pos (by simp)]
  have hr19 := hr11.keep hf19 id (fun _ _ => id)
  have ht19 := ht11.keep hf19 id id
  have hF19 := hF11.trans hf19
  simp only [isB_i, isK_i, isP_i, isTup_i, isInt_i, isSl_i, isPtr_i, isCs_i, isStr_i, isFn_i, isIf_i, rd_i, br_t, br_f, orO_s, orO_n, gd_t, bv_add, bv_sub, bv_mul, bv_eql, bv_neq, bv_lss, bv_leq, bv_gtr, bv_geq, bv_quo, bv_rem, bv_shl, bv_shr, bv_seq, bv_sne, bv_ptr, bv_if, bv_map, bv_nf, bv_bool, bv_sl, bv_fn, uv_not, uv_neg, eqV, nilV, nc_ptr, nc_fn, nc_if, Option.map_some, toN, Nat.mul_one, implies_true, true_and, and_true, and_self, List.getElem?_cons_zero, List.getElem?_cons_succ]
  refine (add23_c _ ht19 (by omega)).mono ?_
  rintro _ w27 ⟨rfl, ht27, hf27⟩
  obtain ⟨hr27, hF27⟩ := tstep hF19 ht19 hr19 hf27
  have ht27 : TabAt Value.string 88 w27 B M 1 1 [(1, ⟨#[120]⟩)] := by simpa [setM] using ht27
  rw [if_neg (by simp)]
  simp only [isB_i, isK_i, isP_i, isTup_i, isInt_i, isSl_i, isPtr_i, isCs_i, isStr_i, isFn_i, isIf_i, rd_i, br_t, br_f, orO_s, orO_n, gd_t, bv_add, bv_sub, bv_mul, bv_eql, bv_neq, bv_lss, bv_leq, bv_gtr, bv_geq, bv_quo, bv_rem, bv_shl, bv_shr, bv_seq, bv_sne, bv_ptr, bv_if, bv_map, bv_nf, bv_bool, bv_sl, bv_fn, uv_not, uv_neg, eqV, nilV, nc_ptr, nc_fn, nc_if, Option.map_some, toN, Nat.mul_one, implies_true, true_and, and_true, and_self, List.getElem?_cons_zero, List.getElem?_cons_succ]
  refine (add23_c _ ht27 (by omega)).mono ?_
  rintro _ w35 ⟨rfl, ht35, hf35⟩
  obtain ⟨hr35, hF35⟩ := tstep hF27 ht27 hr27 hf35
  have ht35 : TabAt Value.string 88 w35 B M 1 1 [(1, ⟨#[120]⟩)] := by simpa [setM] using ht35
  rw [if_pos (by simp)]
  simp only [isB_i, isK_i, isP_i, isTup_i, isInt_i, isSl_i, isPtr_i, isCs_i, isStr_i, isFn_i, isIf_i, rd_i, br_t, br_f, orO_s, orO_n, gd_t, bv_add, bv_sub, bv_mul, bv_eql, bv_neq, bv_lss, bv_leq, bv_gtr, bv_geq, bv_quo, bv_rem, bv_shl, bv_shr, bv_seq, bv_sne, bv_ptr, bv_if, bv_map, bv_nf, bv_bool, bv_sl, bv_fn, uv_not, uv_neg, eqV, nilV, nc_ptr, nc_fn, nc_if, Option.map_some, toN, Nat.mul_one, implies_true, true_and, and_true, and_self, List.getElem?_cons_zero, List.getElem?_cons_succ]
  refine (drop24_c _ ht35).mono ?_
  rintro _ w43 ⟨rfl, ht43, hf43⟩
  obtain ⟨hr43, hF43⟩ := tstep hF35 ht35 hr35 (hf43.mono fun _ _ h => .inr h)
  have ht43 : TabAt Value.string 88 w43 B M 1 1 [] := by simpa [delM] using ht43
  simp only [isB_i, isK_i, isP_i, isTup_i, isInt_i, isSl_i, isPtr_i, isCs_i, isStr_i, isFn_i, isIf_i, rd_i, br_t, br_f, orO_s, orO_n, gd_t, bv_add, bv_sub, bv_mul, bv_eql, bv_neq, bv_lss, bv_leq, bv_gtr, bv_geq, bv_quo, bv_rem, bv_shl, bv_shr, bv_seq, bv_sne, bv_ptr, bv_if, bv_map, bv_nf, bv_bool, bv_sl, bv_fn, uv_not, uv_neg, eqV, nilV, nc_ptr, nc_fn, nc_if, Option.map_some, toN, Nat.mul_one, implies_true, true_and, and_true, and_self, List.getElem?_cons_zero, List.getElem?_cons_succ]
  refine (add23_c _ ht43 (by omega)).mono ?_
  rintro _ w46 ⟨rfl, ht46, hf46⟩
  obtain ⟨hr46, hF46⟩ := tstep hF43 ht43 hr43 hf46
  have ht46 : TabAt Value.string 88 w46 B M 1 2 [(2, ⟨#[122]⟩)] := by simpa [setM] using ht46
  rw [if_neg (by simp)]
  simp only [isB_i, isK_i, isP_i, isTup_i, isInt_i, isSl_i, isPtr_i, isCs_i, isStr_i, isFn_i, isIf_i, rd_i, br_t, br_f, orO_s, orO_n, gd_t, bv_add, bv_sub, bv_mul, bv_eql, bv_neq, bv_lss, bv_leq, bv_gtr, bv_geq, bv_quo, bv_rem, bv_shl, bv_shr, bv_seq, bv_sne, bv_ptr, bv_if, bv_map, bv_nf, bv_bool, bv_sl, bv_fn, uv_not, uv_neg, eqV, nilV, nc_ptr, nc_fn, nc_if, Option.map_some, toN, Nat.mul_one, implies_true, true_and, and_true, and_self, List.getElem?_cons_zero, List.getElem?_cons_succ]
  refine (get41_c _ ht46).mono ?_
  rintro _ _ ⟨rfl, rfl⟩
  simp only [isB_i, isK_i, isP_i, isTup_i, isInt_i, isSl_i, isPtr_i, isCs_i, isStr_i, isFn_i, isIf_i, rd_i, br_t, br_f, orO_s, orO_n, gd_t, bv_add, bv_sub, bv_mul, bv_eql, bv_neq, bv_lss, bv_leq, bv_gtr, bv_geq, bv_quo, bv_rem, bv_shl, bv_shr, bv_seq, bv_sne, bv_ptr, bv_if, bv_map, bv_nf, bv_bool, bv_sl, bv_fn, uv_not, uv_neg, eqV, nilV, nc_ptr, nc_fn, nc_if, Option.map_some, toN, Nat.mul_one, implies_true, true_and, and_true, and_self, List.getElem?_cons_zero, List.getElem?_cons_succ, getM, Int.reduceAdd, if_true, Option.getD_some, Option.isSome_some]
  have t1 : ∀ {A C : Prop}, A → br (decide True) A C := fun {A C} h => by simpa using (show br true A C from h)
  refine t1 (br_dec (fun _ => ?_) (fun h => absurd rfl h))
  refine (len14_c hr46).mono ?_
  rintro _ _ ⟨rfl, rfl⟩
  simp only [isB_i, isK_i, isP_i, isTup_i, isInt_i, isSl_i, isPtr_i, isCs_i, isStr_i, isFn_i, isIf_i, rd_i, br_t, br_f, orO_s, orO_n, gd_t, bv_add, bv_sub, bv_mul, bv_eql, bv_neq, bv_lss, bv_leq, bv_gtr, bv_geq, bv_quo, bv_rem, bv_shl, bv_shr, bv_seq, bv_sne, bv_ptr, bv_if, bv_map, bv_nf, bv_bool, bv_sl, bv_fn, uv_not, uv_neg, eqV, nilV, nc_ptr, nc_fn, nc_if, Option.map_some, toN, Nat.mul_one, implies_true, true_and, and_true, and_self]
  refine br_dec (fun _ => t1 (t1 (t1 (t1 (t1 (t1 ?_)))))) (fun h => absurd rfl h)
  refine (len26_c ht46).mono ?_
  rintro _ _ ⟨rfl, rfl⟩
  simp only [isB_i, isK_i, isP_i, isTup_i, isInt_i, isSl_i, isPtr_i, isCs_i, isStr_i, isFn_i, isIf_i, rd_i, br_t, br_f, orO_s, orO_n, gd_t, bv_add, bv_sub, bv_mul, bv_eql, bv_neq, bv_lss, bv_leq, bv_gtr, bv_geq, bv_quo, bv_rem, bv_shl, bv_shr, bv_seq, bv_sne, bv_ptr, bv_if, bv_map, bv_nf, bv_bool, bv_sl, bv_fn, uv_not, uv_neg, eqV, nilV, nc_ptr, nc_fn, nc_if, Option.map_some, toN, Nat.mul_one, implies_true, true_and, and_true, and_self]
  exact ⟨rfl, hF46⟩
end Go.Proofs.Ytlhgibiffekpfaa
