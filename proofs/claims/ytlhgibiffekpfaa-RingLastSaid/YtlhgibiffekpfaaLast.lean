/- RingLast comes to true and turns nothing that was there.  Conditions: the argument's cells hold strings. -/
import Derived.Test.YtlhgibiffekpfaaShown
import Derived.Test.YtlhgibiffekpfaaC1
namespace Go.Proofs.Ytlhgibiffekpfaa
set_option linter.unusedSimpArgs false
set_option linter.unusedVariables false
open Go Go.RowKit VC
/-- The last m of the first k. -/
def lastk (ss : Nat → ByteArray) (k m : Nat) : List ByteArray := ((List.range k).map ss).drop (k - m)
theorem lastk_length (ss : Nat → ByteArray) (k m : Nat) : (lastk ss k m).length = min k m := by simp [lastk]; omega
theorem lastk_succ (ss : Nat → ByteArray) (k m : Nat) (hm : 1 ≤ m) : lastk ss (k + 1) m = if k < m then lastk ss k m ++ [ss k] else (lastk ss k m).tail ++ [ss k] := by
  unfold lastk
  split
  · rw [show k + 1 - m = 0 by omega, show k - m = 0 by omega]; simp [List.range_succ]
  · rw [List.range_succ, List.map_append, List.tail_drop, List.drop_append, List.length_map, List.length_range, show k + 1 - m - k = 0 by omega, show k + 1 - m = k - m + 1 by omega]
    rfl
theorem lastk_head (ss : Nat → ByteArray) (k m : Nat) (hm : 1 ≤ m) (hk : m ≤ k) (z : ByteArray) : (lastk ss k m).headD z = ss (k - m) := by
  unfold lastk
  rw [List.headD_eq_head?_getD, List.head?_drop, List.getElem?_map, List.getElem?_range (by omega)]
  rfl
theorem lastk_get (ss : Nat → ByteArray) (k m : Nat) (hm : 1 ≤ m) (z : ByteArray) : (lastk ss (k + 1) m).getD (min (k + 1) m - 1) z = ss k := by
  unfold lastk
  rw [List.getD_eq_getElem?_getD, List.getElem?_drop, List.getElem?_map, List.getElem?_range (by omega)]
  simp only [Option.map_some, Option.getD_some]
  congr 1; omega
set_option maxHeartbeats 1000000 in
set_option maxRecDepth 20000 in
theorem last_c (a : Int) (bp : Option Addr) (bn bc : Nat) (ss : Nat → ByteArray) (W : World) (hl : ∀ i, i < bn → ∃ ad, bp = some ad ∧ W.cell? (ad.add i) = some (.string (ss i))) (hbn : bn ≤ bc) :
    callV Try.prog 3 [.int .i64 a, .slice bp bn bc] W fun v w' => v = .bool true ∧ Fm none' W w' := by
  refine vc3 a bp bn bc W _ ?_
  obtain ⟨m, hm, hm1, hm2⟩ : ∃ m : Nat, IntKind.i64.wrap (1 + Int.tmod (andI .i64 a 65535) 30) = m ∧ 1 ≤ m ∧ m ≤ 30 := by
    obtain ⟨h1, h2⟩ := andI_le a 65535 (by omega)
    have h3 : Int.tmod (andI .i64 a 65535) 30 = andI .i64 a 65535 % 30 := Int.tmod_eq_emod_of_nonneg h1
    rw [h3, w64 (by omega)]
    exact ⟨(1 + andI .i64 a 65535 % 30).toNat, by omega, by omega, by omega⟩
  refine (shown_c W).mono ?_
  rintro _ w1 ⟨rfl, hf1⟩
  simp only [hm, isB_i, isK_i, isP_i, isTup_i, isInt_i, isSl_i, isPtr_i, isCs_i, isStr_i, isFn_i, isIf_i, rd_i, br_t, br_f, orO_s, orO_n, gd_t, bv_add, bv_sub, bv_mul, bv_eql, bv_neq, bv_lss, bv_leq, bv_gtr, bv_geq, bv_quo, bv_rem, bv_shl, bv_shr, bv_seq, bv_sne, bv_ptr, bv_if, bv_map, bv_nf, bv_bool, bv_sl, bv_fn, uv_not, uv_neg, eqV, nilV, nc_ptr, nc_fn, nc_if, Option.map_some, toN, Nat.mul_one, implies_true, true_and, and_true, and_self]
  refine (new12_c m w1 W.heap.size).mono ?_
  rintro _ w4 ⟨R, rfl, hR, hr, hf4⟩
  have hF := hf1.trans hf4
  have s1 := hf1.size
  rw [show max (m : Int) 1 = m by omega] at hr
  simp only [isB_i, isK_i, isP_i, isTup_i, isInt_i, isSl_i, isPtr_i, isCs_i, isStr_i, isFn_i, isIf_i, rd_i, br_t, br_f, orO_s, orO_n, gd_t, bv_add, bv_sub, bv_mul, bv_eql, bv_neq, bv_lss, bv_leq, bv_gtr, bv_geq, bv_quo, bv_rem, bv_shl, bv_shr, bv_seq, bv_sne, bv_ptr, bv_if, bv_map, bv_nf, bv_bool, bv_sl, bv_fn, uv_not, uv_neg, eqV, nilV, nc_ptr, nc_fn, nc_if, Option.map_some, toN, Nat.mul_one, implies_true, true_and, and_true, and_self, Option.isNone_some]
  refine sliceAt_hi (by rw [row22]) row9 (by omega) (by omega) ?_
  obtain ⟨n, hn⟩ : ∃ n, n = min bn 100 := ⟨_, rfl⟩
  have hn' : (min (bn : Int) 100).toNat = n := by omega
  rw [hn']
  have hlp : ∀ i, i < n → ∃ ad, (if bc = 0 then bp else bp.map (·.add 0)) = some ad ∧ W.cell? (ad.add i) = some (.string (ss i)) := by
    intro i hi
    obtain ⟨ad, rfl, h⟩ := hl i (by omega)
    refine ⟨ad.add 0, by rw [if_neg (by omega)]; rfl, ?_⟩
    rw [← h]
    simp [Addr.add]
  generalize (if bc = 0 then bp else bp.map (·.add 0)) = p' at hlp ⊢
  simp only [isB_i, isK_i, isP_i, isTup_i, isInt_i, isSl_i, isPtr_i, isCs_i, isStr_i, isFn_i, isIf_i, rd_i, br_t, br_f, orO_s, orO_n, gd_t, bv_add, bv_sub, bv_mul, bv_eql, bv_neq, bv_lss, bv_leq, bv_gtr, bv_geq, bv_quo, bv_rem, bv_shl, bv_shr, bv_seq, bv_sne, bv_ptr, bv_if, bv_map, bv_nf, bv_bool, bv_sl, bv_fn, uv_not, uv_neg, eqV, nilV, nc_ptr, nc_fn, nc_if, Option.map_some, toN, Nat.mul_one, implies_true, true_and, and_true, and_self]
  refine ⟨fun u w' => ∃ k : Nat, k ≤ n ∧ u 7 = .int .i64 k ∧ RingAt Value.string 82 9 w' W.heap.size R m (lastk ss k m) ∧ Fm none' W w', fun u _ => n - (intOf (u 7)).toNat, ?_, ?_⟩
  · exact ⟨0, by omega, rfl, by simpa [lastk] using hr, hF⟩
  rintro u w14 ⟨k, hk, h7, hr, hf⟩
  change u 7 = .int .i64 k at h7
  simp only [h7, isB_i, isK_i, isP_i, isTup_i, isInt_i, isSl_i, isPtr_i, isCs_i, isStr_i, isFn_i, isIf_i, rd_i, br_t, br_f, orO_s, orO_n, gd_t, bv_add, bv_sub, bv_mul, bv_eql, bv_neq, bv_lss, bv_leq, bv_gtr, bv_geq, bv_quo, bv_rem, bv_shl, bv_shr, bv_seq, bv_sne, bv_ptr, bv_if, bv_map, bv_nf, bv_bool, bv_sl, bv_fn, uv_not, uv_neg, eqV, nilV, nc_ptr, nc_fn, nc_if, Option.map_some, toN, Nat.mul_one, implies_true, true_and, and_true, and_self]
  refine br_dec (fun hkn => ?_) (fun hkn => hf)
  obtain ⟨ad, rfl, hc⟩ := hlp k (by omega)
  simp only [isB_i, isK_i, isP_i, isTup_i, isInt_i, isSl_i, isPtr_i, isCs_i, isStr_i, isFn_i, isIf_i, rd_i, br_t, br_f, orO_s, orO_n, gd_t, bv_add, bv_sub, bv_mul, bv_eql, bv_neq, bv_lss, bv_leq, bv_gtr, bv_geq, bv_quo, bv_rem, bv_shl, bv_shr, bv_seq, bv_sne, bv_ptr, bv_if, bv_map, bv_nf, bv_bool, bv_sl, bv_fn, uv_not, uv_neg, eqV, nilV, nc_ptr, nc_fn, nc_if, Option.map_some, toN, Nat.mul_one, implies_true, true_and, and_true, and_self]
  refine ⟨by omega, rd_of (hf.cell hc id) ?_⟩
  simp only [isB_i, isK_i, isP_i, isTup_i, isInt_i, isSl_i, isPtr_i, isCs_i, isStr_i, isFn_i, isIf_i, rd_i, br_t, br_f, orO_s, orO_n, gd_t, bv_add, bv_sub, bv_mul, bv_eql, bv_neq, bv_lss, bv_leq, bv_gtr, bv_geq, bv_quo, bv_rem, bv_shl, bv_shr, bv_seq, bv_sne, bv_ptr, bv_if, bv_map, bv_nf, bv_bool, bv_sl, bv_fn, uv_not, uv_neg, eqV, nilV, nc_ptr, nc_fn, nc_if, Option.map_some, toN, Nat.mul_one, implies_true, true_and, and_true, and_self]
  have hlen := lastk_length ss k m
  refine (push13_c (ss k) hr (by omega) hf.size (by omega)).mono ?_
  rintro _ w22 ⟨rfl, hr2, hf2⟩
  have hF2 : Fm none' W w22 := hf.trans' hf2 (by rintro i hi (rfl | e); omega; have := e.1; omega)
  have hr2 : RingAt Value.string 82 9 w22 W.heap.size R m (lastk ss (k + 1) m) := by
    rw [lastk_succ ss k m hm1]
    by_cases h : k < m
    · rw [if_pos h]; rw [if_pos (by omega)] at hr2; exact hr2
    · rw [if_neg h]; rw [if_neg (by omega)] at hr2; exact hr2
  by_cases hkm : k < m
  · rw [if_pos (by omega)]
    simp only [isB_i, isK_i, isP_i, isTup_i, isInt_i, isSl_i, isPtr_i, isCs_i, isStr_i, isFn_i, isIf_i, rd_i, br_t, br_f, orO_s, orO_n, gd_t, bv_add, bv_sub, bv_mul, bv_eql, bv_neq, bv_lss, bv_leq, bv_gtr, bv_geq, bv_quo, bv_rem, bv_shl, bv_shr, bv_seq, bv_sne, bv_ptr, bv_if, bv_map, bv_nf, bv_bool, bv_sl, bv_fn, uv_not, uv_neg, eqV, nilV, nc_ptr, nc_fn, nc_if, Option.map_some, toN, Nat.mul_one, implies_true, true_and, and_true, and_self, List.getElem?_cons_zero, List.getElem?_cons_succ, Bool.not_false]
    refine br_ndec (fun h => by simp at h; omega) (fun _ => ?_)
    refine br_ndec (fun h => by simp at h) (fun _ => ?_)
    refine (len14_c hr2).mono ?_
    rintro _ w22 ⟨rfl, rfl⟩
    have hlen2 := lastk_length ss (k + 1) m
    simp only [isB_i, isK_i, isP_i, isTup_i, isInt_i, isSl_i, isPtr_i, isCs_i, isStr_i, isFn_i, isIf_i, rd_i, br_t, br_f, orO_s, orO_n, gd_t, bv_add, bv_sub, bv_mul, bv_eql, bv_neq, bv_lss, bv_leq, bv_gtr, bv_geq, bv_quo, bv_rem, bv_shl, bv_shr, bv_seq, bv_sne, bv_ptr, bv_if, bv_map, bv_nf, bv_bool, bv_sl, bv_fn, uv_not, uv_neg, eqV, nilV, nc_ptr, nc_fn, nc_if, Option.map_some, toN, Nat.mul_one, implies_true, true_and, and_true, and_self]
    rw [w64 (by omega)]
    refine br_ndec (fun h => absurd (by omega) h) (fun _ => ?_)
    refine (len14_c hr2).mono ?_
    rintro _ w22 ⟨rfl, rfl⟩
    simp only [isB_i, isK_i, isP_i, isTup_i, isInt_i, isSl_i, isPtr_i, isCs_i, isStr_i, isFn_i, isIf_i, rd_i, br_t, br_f, orO_s, orO_n, gd_t, bv_add, bv_sub, bv_mul, bv_eql, bv_neq, bv_lss, bv_leq, bv_gtr, bv_geq, bv_quo, bv_rem, bv_shl, bv_shr, bv_seq, bv_sne, bv_ptr, bv_if, bv_map, bv_nf, bv_bool, bv_sl, bv_fn, uv_not, uv_neg, eqV, nilV, nc_ptr, nc_fn, nc_if, Option.map_some, toN, Nat.mul_one, implies_true, true_and, and_true, and_self]
    rw [w64 (by omega)]
    refine (at15_c _ hr2 (by omega)).mono ?_
    rintro _ w42 ⟨rfl, hf3⟩
    rw [if_pos (by omega)]
    rw [show (((lastk ss (k + 1) m).length : Int) - 1).toNat = min (k + 1) m - 1 by omega, lastk_get ss k m hm1]
    have hF3 := hF2.trans hf3
    simp only [isB_i, isK_i, isP_i, isTup_i, isInt_i, isSl_i, isPtr_i, isCs_i, isStr_i, isFn_i, isIf_i, rd_i, br_t, br_f, orO_s, orO_n, gd_t, bv_add, bv_sub, bv_mul, bv_eql, bv_neq, bv_lss, bv_leq, bv_gtr, bv_geq, bv_quo, bv_rem, bv_shl, bv_shr, bv_seq, bv_sne, bv_ptr, bv_if, bv_map, bv_nf, bv_bool, bv_sl, bv_fn, uv_not, uv_neg, eqV, nilV, nc_ptr, nc_fn, nc_if, Option.map_some, toN, Nat.mul_one, implies_true, true_and, and_true, and_self, List.getElem?_cons_zero, List.getElem?_cons_succ, Bool.not_true]
    refine ⟨by omega, rd_of (hF3.cell hc id) ?_⟩
    simp only [isB_i, isK_i, isP_i, isTup_i, isInt_i, isSl_i, isPtr_i, isCs_i, isStr_i, isFn_i, isIf_i, rd_i, br_t, br_f, orO_s, orO_n, gd_t, bv_add, bv_sub, bv_mul, bv_eql, bv_neq, bv_lss, bv_leq, bv_gtr, bv_geq, bv_quo, bv_rem, bv_shl, bv_shr, bv_seq, bv_sne, bv_ptr, bv_if, bv_map, bv_nf, bv_bool, bv_sl, bv_fn, uv_not, uv_neg, eqV, nilV, nc_ptr, nc_fn, nc_if, Option.map_some, toN, Nat.mul_one, implies_true, true_and, and_true, and_self]
    refine br_ndec (fun h => by simp at h) (fun _ => ?_)
    refine ⟨⟨k + 1, by omega, rfl, hr2.keep hf3 id (fun _ _ => id), hF3⟩, ?_⟩
    show n - ((k : Int) + 1).toNat < n - (k : Int).toNat; omega
  · rw [if_neg (by omega)]
    simp only [isB_i, isK_i, isP_i, isTup_i, isInt_i, isSl_i, isPtr_i, isCs_i, isStr_i, isFn_i, isIf_i, rd_i, br_t, br_f, orO_s, orO_n, gd_t, bv_add, bv_sub, bv_mul, bv_eql, bv_neq, bv_lss, bv_leq, bv_gtr, bv_geq, bv_quo, bv_rem, bv_shl, bv_shr, bv_seq, bv_sne, bv_ptr, bv_if, bv_map, bv_nf, bv_bool, bv_sl, bv_fn, uv_not, uv_neg, eqV, nilV, nc_ptr, nc_fn, nc_if, Option.map_some, toN, Nat.mul_one, implies_true, true_and, and_true, and_self, List.getElem?_cons_zero, List.getElem?_cons_succ, lastk_head ss k m hm1 (by omega)]
    refine br_ndec (fun h => by simp at h; omega) (fun _ => ?_)
    rw [w64 (by omega), show ((k : Int) - (m : Int)).toNat = k - m by omega]
    obtain ⟨ad2, had, hc2⟩ := hlp (k - m) (by omega)
    cases had
    refine ⟨by omega, rd_of (hF2.cell hc2 id) ?_⟩
    simp only [isB_i, isK_i, isP_i, isTup_i, isInt_i, isSl_i, isPtr_i, isCs_i, isStr_i, isFn_i, isIf_i, rd_i, br_t, br_f, orO_s, orO_n, gd_t, bv_add, bv_sub, bv_mul, bv_eql, bv_neq, bv_lss, bv_leq, bv_gtr, bv_geq, bv_quo, bv_rem, bv_shl, bv_shr, bv_seq, bv_sne, bv_ptr, bv_if, bv_map, bv_nf, bv_bool, bv_sl, bv_fn, uv_not, uv_neg, eqV, nilV, nc_ptr, nc_fn, nc_if, Option.map_some, toN, Nat.mul_one, implies_true, true_and, and_true, and_self]
    refine br_ndec (fun h => by simp at h) (fun _ => ?_)
    simp only [Bool.not_true, isB_i, isK_i, isP_i, isTup_i, isInt_i, isSl_i, isPtr_i, isCs_i, isStr_i, isFn_i, isIf_i, rd_i, br_t, br_f, orO_s, orO_n, gd_t, bv_add, bv_sub, bv_mul, bv_eql, bv_neq, bv_lss, bv_leq, bv_gtr, bv_geq, bv_quo, bv_rem, bv_shl, bv_shr, bv_seq, bv_sne, bv_ptr, bv_if, bv_map, bv_nf, bv_bool, bv_sl, bv_fn, uv_not, uv_neg, eqV, nilV, nc_ptr, nc_fn, nc_if, Option.map_some, toN, Nat.mul_one, implies_true, true_and, and_true, and_self]
    refine (len14_c hr2).mono ?_
    rintro _ w22 ⟨rfl, rfl⟩
    have hlen2 := lastk_length ss (k + 1) m
    simp only [isB_i, isK_i, isP_i, isTup_i, isInt_i, isSl_i, isPtr_i, isCs_i, isStr_i, isFn_i, isIf_i, rd_i, br_t, br_f, orO_s, orO_n, gd_t, bv_add, bv_sub, bv_mul, bv_eql, bv_neq, bv_lss, bv_leq, bv_gtr, bv_geq, bv_quo, bv_rem, bv_shl, bv_shr, bv_seq, bv_sne, bv_ptr, bv_if, bv_map, bv_nf, bv_bool, bv_sl, bv_fn, uv_not, uv_neg, eqV, nilV, nc_ptr, nc_fn, nc_if, Option.map_some, toN, Nat.mul_one, implies_true, true_and, and_true, and_self]
    rw [w64 (by omega)]
    refine br_ndec (fun h => absurd (by omega) h) (fun _ => ?_)
    refine (len14_c hr2).mono ?_
    rintro _ w22 ⟨rfl, rfl⟩
    simp only [isB_i, isK_i, isP_i, isTup_i, isInt_i, isSl_i, isPtr_i, isCs_i, isStr_i, isFn_i, isIf_i, rd_i, br_t, br_f, orO_s, orO_n, gd_t, bv_add, bv_sub, bv_mul, bv_eql, bv_neq, bv_lss, bv_leq, bv_gtr, bv_geq, bv_quo, bv_rem, bv_shl, bv_shr, bv_seq, bv_sne, bv_ptr, bv_if, bv_map, bv_nf, bv_bool, bv_sl, bv_fn, uv_not, uv_neg, eqV, nilV, nc_ptr, nc_fn, nc_if, Option.map_some, toN, Nat.mul_one, implies_true, true_and, and_true, and_self]
    rw [w64 (by omega)]
    refine (at15_c _ hr2 (by omega)).mono ?_
    rintro _ w42 ⟨rfl, hf3⟩
    rw [if_pos (by omega)]
    rw [show (((lastk ss (k + 1) m).length : Int) - 1).toNat = min (k + 1) m - 1 by omega, lastk_get ss k m hm1]
    have hF3 := hF2.trans hf3
    simp only [isB_i, isK_i, isP_i, isTup_i, isInt_i, isSl_i, isPtr_i, isCs_i, isStr_i, isFn_i, isIf_i, rd_i, br_t, br_f, orO_s, orO_n, gd_t, bv_add, bv_sub, bv_mul, bv_eql, bv_neq, bv_lss, bv_leq, bv_gtr, bv_geq, bv_quo, bv_rem, bv_shl, bv_shr, bv_seq, bv_sne, bv_ptr, bv_if, bv_map, bv_nf, bv_bool, bv_sl, bv_fn, uv_not, uv_neg, eqV, nilV, nc_ptr, nc_fn, nc_if, Option.map_some, toN, Nat.mul_one, implies_true, true_and, and_true, and_self, List.getElem?_cons_zero, List.getElem?_cons_succ, Bool.not_true]
    refine ⟨by omega, rd_of (hF3.cell hc id) ?_⟩
    simp only [isB_i, isK_i, isP_i, isTup_i, isInt_i, isSl_i, isPtr_i, isCs_i, isStr_i, isFn_i, isIf_i, rd_i, br_t, br_f, orO_s, orO_n, gd_t, bv_add, bv_sub, bv_mul, bv_eql, bv_neq, bv_lss, bv_leq, bv_gtr, bv_geq, bv_quo, bv_rem, bv_shl, bv_shr, bv_seq, bv_sne, bv_ptr, bv_if, bv_map, bv_nf, bv_bool, bv_sl, bv_fn, uv_not, uv_neg, eqV, nilV, nc_ptr, nc_fn, nc_if, Option.map_some, toN, Nat.mul_one, implies_true, true_and, and_true, and_self]
    refine br_ndec (fun h => by simp at h) (fun _ => ?_)
    refine ⟨⟨k + 1, by omega, rfl, hr2.keep hf3 id (fun _ _ => id), hF3⟩, ?_⟩
    show n - ((k : Int) + 1).toNat < n - (k : Int).toNat; omega
end Go.Proofs.Ytlhgibiffekpfaa
