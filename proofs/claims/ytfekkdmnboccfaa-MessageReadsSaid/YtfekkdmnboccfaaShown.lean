/- message's laws: what must be in any case.  Conditions: none. -/
import Derived.Test.YtfekkdmnboccfaaLaw
import Derived.KernelRfl
namespace Go.Proofs.Ytfekkdmnboccfaa
set_option linter.unusedSimpArgs false
set_option linter.unusedVariables false
open Go Go.RowKit VC
theorem enc1 : encodeM [blank 1] = ([8, 128], 0) := by decide +kernel
theorem dec1 : decodeM [8, 128] = ([blank 1], 0) := by decide +kernel
theorem dec2 : (decodeM [8]).2 = 2 := by decide +kernel
theorem dec3 : (decodeM [8, 129]).2 = 3 := by decide +kernel
theorem right0 : rightM (blank 0) = false := by decide +kernel
theorem right5 : rightM { blank 5 with id := 1 } = true := by decide +kernel
theorem mok_blank {k : Int} (h : I64 k) : Mok (blank k) := by
  constructor <;> first | exact h | (simp [blank, I64]; done) | (simp [blank])
variable {w : World}
set_option maxRecDepth 20000 in
set_option maxHeartbeats 1000000 in
theorem shown12_c : callV Try.prog 12 [] w fun v w' => v = .bool true ∧ Fm none' w w' := by
  refine vc12 w _ ?_
  obtain ⟨i, hi, hz, hsz, hbt⟩ := info_of_row row40
  refine build_S (cs := msgC (blank 1) none 0) (by rw [row22]) row40 rfl (by omega) (by omega) rfl fun w1 hb1 hs1 hf1 => ?_
  simp only [isB_i, isK_i, isP_i, isTup_i, isInt_i, isSl_i, isPtr_i, isCs_i, isStr_i, isFn_i, isIf_i, rd_i, br_t, br_f, orO_s, orO_n, gd_t, bv_add, bv_sub, bv_mul, bv_eql, bv_neq, bv_lss, bv_leq, bv_gtr, bv_geq, bv_quo, bv_rem, bv_shl, bv_shr, bv_seq, bv_sne, bv_ptr, bv_if, bv_map, bv_nf, bv_bool, bv_sl, bv_fn, uv_not, uv_neg, eqV, nilV, nc_ptr, nc_fn, nc_if, Option.map_some, toN, Nat.mul_one, implies_true, true_and, and_true, and_self]
  have hm1 : MsgsAt w1 w1.heap.size (some ⟨w.heap.size, 0, none⟩) [blank 1] := fun j m hj => by
    obtain rfl : j = 0 := by have := (List.getElem?_eq_some_iff.1 hj).1; simp at this; omega
    simp at hj; subst hj
    refine ⟨_, none, 0, rfl, by show w.heap.size < _; omega, ?_, fun j y h => by simp [blank] at h, fun _ e => by cases e⟩
    rw [Nat.zero_mul]
    exact cells_all hb1 rfl
  refine (encode14_c hm1 (Nat.le_refl _) ⟨fun m hm => ?_, fun m hm => ?_, by simp⟩).mono ?_
  · simp at hm; subst hm; exact mok_blank (by simp [I64])
  · simp at hm; subst hm; simp [blank]
  rw [enc1]
  rintro _ w6 ⟨sv, rfl, hown6, hf6⟩
  obtain ⟨p6, c6, rfl, -⟩ := own_read hown6
  simp only [isB_i, isK_i, isP_i, isTup_i, isInt_i, isSl_i, isPtr_i, isCs_i, isStr_i, isFn_i, isIf_i, rd_i, br_t, br_f, orO_s, orO_n, gd_t, bv_add, bv_sub, bv_mul, bv_eql, bv_neq, bv_lss, bv_leq, bv_gtr, bv_geq, bv_quo, bv_rem, bv_shl, bv_shr, bv_seq, bv_sne, bv_ptr, bv_if, bv_map, bv_nf, bv_bool, bv_sl, bv_fn, uv_not, uv_neg, eqV, nilV, nc_ptr, nc_fn, nc_if, Option.map_some, toN, Nat.mul_one, implies_true, true_and, and_true, and_self, List.getElem?_cons_zero, List.getElem?_cons_succ]
  have hby6 : BytesAt w6 p6 [8, 128] := BytesAt.of_own hown6
  refine (decode18_c (ys := [8, 128]) hby6 (by simp) (by simp)).mono ?_
  rw [dec1]
  rintro _ w16 ⟨sv, rfl, hown16, hf16⟩
  obtain ⟨p16, c16, rfl, hm16⟩ := hown16.at
  simp only [isB_i, isK_i, isP_i, isTup_i, isInt_i, isSl_i, isPtr_i, isCs_i, isStr_i, isFn_i, isIf_i, rd_i, br_t, br_f, orO_s, orO_n, gd_t, bv_add, bv_sub, bv_mul, bv_eql, bv_neq, bv_lss, bv_leq, bv_gtr, bv_geq, bv_quo, bv_rem, bv_shl, bv_shr, bv_seq, bv_sne, bv_ptr, bv_if, bv_map, bv_nf, bv_bool, bv_sl, bv_fn, uv_not, uv_neg, eqV, nilV, nc_ptr, nc_fn, nc_if, Option.map_some, toN, Nat.mul_one, implies_true, true_and, and_true, and_self, List.getElem?_cons_zero, List.getElem?_cons_succ]
  refine build_1 (by rw [row25]) row5 rfl rfl fun w26 hb26 hs26 hf26 => ?_
  simp only [isB_i, isK_i, isP_i, isTup_i, isInt_i, isSl_i, isPtr_i, isCs_i, isStr_i, isFn_i, isIf_i, rd_i, br_t, br_f, orO_s, orO_n, gd_t, bv_add, bv_sub, bv_mul, bv_eql, bv_neq, bv_lss, bv_leq, bv_gtr, bv_geq, bv_quo, bv_rem, bv_shl, bv_shr, bv_seq, bv_sne, bv_ptr, bv_if, bv_map, bv_nf, bv_bool, bv_sl, bv_fn, uv_not, uv_neg, eqV, nilV, nc_ptr, nc_fn, nc_if, Option.map_some, toN, Nat.mul_one, implies_true, true_and, and_true, and_self]
  refine (decode18_c (ys := [8]) (p := some ⟨w16.heap.size, 0, none⟩) (fun j y hj => ?_) (by simp) (by simp)).mono ?_
  · obtain rfl : j = 0 := by have := (List.getElem?_eq_some_iff.1 hj).1; simp at this; omega
    simp at hj; subst hj
    exact ⟨_, rfl, cellOf hb26 rfl⟩
  rw [dec2]
  rintro _ w31 ⟨sv, rfl, hown31, hf31⟩
  obtain ⟨p31, c31, rfl, -⟩ := hown31.at
  simp only [isB_i, isK_i, isP_i, isTup_i, isInt_i, isSl_i, isPtr_i, isCs_i, isStr_i, isFn_i, isIf_i, rd_i, br_t, br_f, orO_s, orO_n, gd_t, bv_add, bv_sub, bv_mul, bv_eql, bv_neq, bv_lss, bv_leq, bv_gtr, bv_geq, bv_quo, bv_rem, bv_shl, bv_shr, bv_seq, bv_sne, bv_ptr, bv_if, bv_map, bv_nf, bv_bool, bv_sl, bv_fn, uv_not, uv_neg, eqV, nilV, nc_ptr, nc_fn, nc_if, Option.map_some, toN, Nat.mul_one, implies_true, true_and, and_true, and_self, List.getElem?_cons_zero, List.getElem?_cons_succ]
  refine build_2 (by rw [row25]) row5 rfl rfl rfl fun w41 hb41 hs41 hf41 => ?_
  simp only [isB_i, isK_i, isP_i, isTup_i, isInt_i, isSl_i, isPtr_i, isCs_i, isStr_i, isFn_i, isIf_i, rd_i, br_t, br_f, orO_s, orO_n, gd_t, bv_add, bv_sub, bv_mul, bv_eql, bv_neq, bv_lss, bv_leq, bv_gtr, bv_geq, bv_quo, bv_rem, bv_shl, bv_shr, bv_seq, bv_sne, bv_ptr, bv_if, bv_map, bv_nf, bv_bool, bv_sl, bv_fn, uv_not, uv_neg, eqV, nilV, nc_ptr, nc_fn, nc_if, Option.map_some, toN, Nat.mul_one, implies_true, true_and, and_true, and_self]
  refine (decode18_c (ys := [8, 129]) (p := some ⟨w31.heap.size, 0, none⟩) (fun j y hj => ?_) (by simp) (by simp)).mono ?_
  · have hj2 := (List.getElem?_eq_some_iff.1 hj).1
    simp at hj2
    obtain rfl | rfl : j = 0 ∨ j = 1 := by omega
    · simp at hj; subst hj; exact ⟨_, rfl, cellOf hb41 rfl⟩
    · simp at hj; subst hj; exact ⟨_, rfl, by rw [addr_add]; exact cellOf hb41 rfl⟩
  rw [dec3]
  rintro _ w46 ⟨sv, rfl, hown46, hf46⟩
  obtain ⟨p46, c46, rfl, -⟩ := hown46.at
  simp only [isB_i, isK_i, isP_i, isTup_i, isInt_i, isSl_i, isPtr_i, isCs_i, isStr_i, isFn_i, isIf_i, rd_i, br_t, br_f, orO_s, orO_n, gd_t, bv_add, bv_sub, bv_mul, bv_eql, bv_neq, bv_lss, bv_leq, bv_gtr, bv_geq, bv_quo, bv_rem, bv_shl, bv_shr, bv_seq, bv_sne, bv_ptr, bv_if, bv_map, bv_nf, bv_bool, bv_sl, bv_fn, uv_not, uv_neg, eqV, nilV, nc_ptr, nc_fn, nc_if, Option.map_some, toN, Nat.mul_one, implies_true, true_and, and_true, and_self, List.getElem?_cons_zero, List.getElem?_cons_succ]
  have hF : Fm none' w6 w46 := (((hf16.trans hf26).trans hf31).trans hf41).trans hf46
  refine conv_bytes (by rw [row25]) (by rw [row5]) (by rw [row9]) rfl (hby6.keep hF fun _ _ => id) ?_
  simp only [isB_i, isK_i, isP_i, isTup_i, isInt_i, isSl_i, isPtr_i, isCs_i, isStr_i, isFn_i, isIf_i, rd_i, br_t, br_f, orO_s, orO_n, gd_t, bv_add, bv_sub, bv_mul, bv_eql, bv_neq, bv_lss, bv_leq, bv_gtr, bv_geq, bv_quo, bv_rem, bv_shl, bv_shr, bv_seq, bv_sne, bv_ptr, bv_if, bv_map, bv_nf, bv_bool, bv_sl, bv_fn, uv_not, uv_neg, eqV, nilV, nc_ptr, nc_fn, nc_if, Option.map_some, toN, Nat.mul_one, implies_true, true_and, and_true, and_self]
  refine br_dec (fun _ => ?_) (fun h => absurd (by decide) h)
  obtain ⟨ad, q, cq, rfl, -, hc, -⟩ := (hm16.keep (((hf26.trans hf31).trans hf41).trans hf46) fun _ _ => id) 0 (blank 1) rfl
  have hcell : w46.cell? ad = some (.int .i64 1) := by
    have := (cellsAt_length hc).2 0 (.int .i64 1) rfl
    rw [Nat.zero_mul, add0] at this
    simpa [Addr.add] using this
  simp only [decide_true, List.length_cons, List.length_nil, isB_i, isK_i, isP_i, isTup_i, isInt_i, isSl_i, isPtr_i, isCs_i, isStr_i, isFn_i, isIf_i, rd_i, br_t, br_f, orO_s, orO_n, gd_t, bv_add, bv_sub, bv_mul, bv_eql, bv_neq, bv_lss, bv_leq, bv_gtr, bv_geq, bv_quo, bv_rem, bv_shl, bv_shr, bv_seq, bv_sne, bv_ptr, bv_if, bv_map, bv_nf, bv_bool, bv_sl, bv_fn, uv_not, uv_neg, eqV, nilV, nc_ptr, nc_fn, nc_if, Option.map_some, toN, Nat.mul_one, implies_true, true_and, and_true, and_self]
  refine ⟨by decide, rd_of hcell ?_⟩
  simp only [decide_true, isB_i, isK_i, isP_i, isTup_i, isInt_i, isSl_i, isPtr_i, isCs_i, isStr_i, isFn_i, isIf_i, rd_i, br_t, br_f, orO_s, orO_n, gd_t, bv_add, bv_sub, bv_mul, bv_eql, bv_neq, bv_lss, bv_leq, bv_gtr, bv_geq, bv_quo, bv_rem, bv_shl, bv_shr, bv_seq, bv_sne, bv_ptr, bv_if, bv_map, bv_nf, bv_bool, bv_sl, bv_fn, uv_not, uv_neg, eqV, nilV, nc_ptr, nc_fn, nc_if, Option.map_some, toN, Nat.mul_one, implies_true, true_and, and_true, and_self]
  refine (right16_c (m := blank 0) (mok_blank (by simp [I64])) (fun j y h => by simp [blank] at h) (fun _ e => by cases e) (by simp [blank])).mono ?_
  rw [right0]
  rintro _ w62 ⟨rfl, hf62⟩
  simp only [Bool.not_false, isB_i, isK_i, isP_i, isTup_i, isInt_i, isSl_i, isPtr_i, isCs_i, isStr_i, isFn_i, isIf_i, rd_i, br_t, br_f, orO_s, orO_n, gd_t, bv_add, bv_sub, bv_mul, bv_eql, bv_neq, bv_lss, bv_leq, bv_gtr, bv_geq, bv_quo, bv_rem, bv_shl, bv_shr, bv_seq, bv_sne, bv_ptr, bv_if, bv_map, bv_nf, bv_bool, bv_sl, bv_fn, uv_not, uv_neg, eqV, nilV, nc_ptr, nc_fn, nc_if, Option.map_some, toN, Nat.mul_one, implies_true, true_and, and_true, and_self]
  refine (right16_c (m := { blank 5 with id := 1 }) (by constructor <;> simp [blank, I64]) (fun j y h => by simp [blank] at h) (fun _ e => by cases e) (by simp [blank])).mono ?_
  rw [right5]
  rintro _ w65 ⟨rfl, hf65⟩
  simp only [isB_i, isK_i, isP_i, isTup_i, isInt_i, isSl_i, isPtr_i, isCs_i, isStr_i, isFn_i, isIf_i, rd_i, br_t, br_f, orO_s, orO_n, gd_t, bv_add, bv_sub, bv_mul, bv_eql, bv_neq, bv_lss, bv_leq, bv_gtr, bv_geq, bv_quo, bv_rem, bv_shl, bv_shr, bv_seq, bv_sne, bv_ptr, bv_if, bv_map, bv_nf, bv_bool, bv_sl, bv_fn, uv_not, uv_neg, eqV, nilV, nc_ptr, nc_fn, nc_if, Option.map_some, toN, Nat.mul_one, implies_true, true_and, and_true, and_self]
  exact (((hf1.trans hf6).trans hF).trans hf62).trans hf65
end Go.Proofs.Ytfekkdmnboccfaa
