/- the reference's texts of bits: Text, Number, Of, Bytes.  Conditions: the texts are of bits; at most sixty-four, or a million. -/
import Derived.Test.YtfekkdmnboccfaaPure
import Derived.Test.YtfekkdmnboccfaaSiz
import Derived.Test.YtfekkdmnboccfaaD0
namespace Go.Proofs.Ytfekkdmnboccfaa
set_option linter.unusedSimpArgs false
set_option linter.unusedVariables false
open Go Go.RowKit VC
/-- Bits as a text. -/
def txt (bs : List Int) : ByteArray := strOfNums (bs.map (48 + ·))
theorem strOfNums_app (xs ys : List Int) : strOfNums xs ++ strOfNums ys = strOfNums (xs ++ ys) := by
  unfold strOfNums
  rw [ByteArray.mk_append_mk, List.map_append]
theorem txt_app (xs ys : List Int) : txt xs ++ txt ys = txt (xs ++ ys) := by unfold txt; rw [strOfNums_app, List.map_append]
theorem txt_size (bs : List Int) : (txt bs).size = bs.length := by unfold txt; rw [strOfNums_size, List.length_map]
theorem bv_cat {a b : ByteArray} (h : a.size + b.size ≤ 9223372036854775807) : binV .add (.string a) (.string b) = some (.string (a ++ b)) := catS_of h
theorem txt_r {bs : List Int} (h : ∀ b ∈ bs, Bit b) : ∀ y ∈ bs.map (48 + ·), 0 ≤ y ∧ y < 256 := by
  intro y hy
  obtain ⟨b, hb, rfl⟩ := List.mem_map.1 hy
  have := h b hb
  unfold Bit at this
  omega
theorem emptyS : ({ data := #[] } : ByteArray) = txt [] := rfl
variable {w : World}
theorem cat_txt {K : Value → Prop} {xs ys : List Int} (h : xs.length + ys.length ≤ 1000000000) (k : K (.string (txt (xs ++ ys)))) : rd (orO (binV .add (.string (txt xs)) (.string (txt ys))) none) K := by
  rw [bv_cat (by rw [txt_size, txt_size]; omega), txt_app]
  exact k
theorem count61_c (k : Nat) (hk : k ≤ 64) : callV Try.prog 61 [.int .i64 k] w fun v w' => v = .int .i64 k ∧ w' = w := by
  refine vc61 k w _ ⟨?_, rfl⟩
  congr 1; omega
set_option maxRecDepth 20000 in
theorem text47_c (m k : Nat) (hm : m < 18446744073709551616) (hk : k ≤ 64) : callV Try.prog 47 [.int .u64 m, .int .i64 k] w fun v w' => v = .string (txt (bitsOf (m : Int) k)) ∧ Fm none' w w' := by
  refine vc47 m k w _ ?_
  refine ⟨fun u w' => ∃ i : Nat, i ≤ k ∧ u 0 = .int .u64 ((m / 2 ^ i : Nat) : Int) ∧ u 5 = .string (txt (bitsOf (m : Int) i)) ∧ u 6 = .int .i64 i ∧ Fm none' w w', fun u _ => k - (intOf (u 6)).toNat, ⟨0, by omega, by simp [alist], rfl, rfl, Fm.refl _ _⟩, ?_⟩
  rintro u w3 ⟨i, hi, h0, h5, h6, hF⟩
  change u 0 = _ at h0
  change u 5 = _ at h5
  change u 6 = _ at h6
  simp only [h0, h5, h6, isB_i, isK_i, isP_i, isTup_i, isInt_i, isSl_i, isPtr_i, isCs_i, isStr_i, isFn_i, isIf_i, rd_i, br_t, br_f, orO_s, orO_n, gd_t, bv_add, bv_sub, bv_mul, bv_eql, bv_neq, bv_lss, bv_leq, bv_gtr, bv_geq, bv_quo, bv_rem, bv_shl, bv_shr, bv_seq, bv_sne, bv_ptr, bv_if, bv_map, bv_nf, bv_bool, bv_sl, bv_fn, uv_not, uv_neg, eqV, nilV, nc_ptr, nc_fn, nc_if, Option.map_some, toN, Nat.mul_one, implies_true, true_and, and_true, and_self]
  refine (count61_c k hk).mono ?_
  rintro _ w7 ⟨rfl, rfl⟩
  simp only [isB_i, isK_i, isP_i, isTup_i, isInt_i, isSl_i, isPtr_i, isCs_i, isStr_i, isFn_i, isIf_i, rd_i, br_t, br_f, orO_s, orO_n, gd_t, bv_add, bv_sub, bv_mul, bv_eql, bv_neq, bv_lss, bv_leq, bv_gtr, bv_geq, bv_quo, bv_rem, bv_shl, bv_shr, bv_seq, bv_sne, bv_ptr, bv_if, bv_map, bv_nf, bv_bool, bv_sl, bv_fn, uv_not, uv_neg, eqV, nilV, nc_ptr, nc_fn, nc_if, Option.map_some, toN, Nat.mul_one, implies_true, true_and, and_true, and_self]
  refine br_dec (fun hik => ?_) (fun hik => ?_)
  · have hb : bitAt (m : Int) i = ((m / 2 ^ i % 2 : Nat) : Int) := by rw [bitAt_nat _ _ (by omega), Nat.toNat_testBit]
    have ht : Int.tmod ((m / 2 ^ i : Nat) : Int) 2 = ((m / 2 ^ i % 2 : Nat) : Int) := by rw [Int.tmod_eq_emod_of_nonneg (Int.natCast_nonneg _)]; norm_cast
    have hd : Int.tdiv ((m / 2 ^ i : Nat) : Int) 2 = ((m / 2 ^ (i + 1) : Nat) : Int) := by
      rw [Int.tdiv_eq_ediv_of_nonneg (Int.natCast_nonneg _), Nat.pow_succ, ← Nat.div_div_eq_div_mul]; norm_cast
    have hlt : m / 2 ^ (i + 1) ≤ m := Nat.div_le_self _ _
    rw [ht, hd, u64n (by omega), w64 (by omega)]
    rw [show (48 : Int) + ((m / 2 ^ i % 2 : Nat) : Int) = ((48 + m / 2 ^ i % 2 : Nat) : Int) by push_cast; rfl, u64n (by omega), u8n (by omega)]
    refine build_1 (by rw [row25]) row5 rfl rfl fun w11 hb11 hs11 hf11 => ?_
    simp only [isB_i, isK_i, isP_i, isTup_i, isInt_i, isSl_i, isPtr_i, isCs_i, isStr_i, isFn_i, isIf_i, rd_i, br_t, br_f, orO_s, orO_n, gd_t, bv_add, bv_sub, bv_mul, bv_eql, bv_neq, bv_lss, bv_leq, bv_gtr, bv_geq, bv_quo, bv_rem, bv_shl, bv_shr, bv_seq, bv_sne, bv_ptr, bv_if, bv_map, bv_nf, bv_bool, bv_sl, bv_fn, uv_not, uv_neg, eqV, nilV, nc_ptr, nc_fn, nc_if, Option.map_some, toN, Nat.mul_one, implies_true, true_and, and_true, and_self]
    refine conv_bytes (ys := [((48 + m / 2 ^ i % 2 : Nat) : Int)]) (by rw [row25]) (by rw [row5]) (by rw [row9]) rfl (fun j y hj => ?_) ?_
    · obtain rfl : j = 0 := by have := (List.getElem?_eq_some_iff.1 hj).1; simp at this; omega
      simp at hj; subst hj
      exact ⟨_, rfl, cellOf hb11 (by simp)⟩
    simp only [isB_i, isK_i, isP_i, isTup_i, isInt_i, isSl_i, isPtr_i, isCs_i, isStr_i, isFn_i, isIf_i, rd_i, br_t, br_f, orO_s, orO_n, gd_t, bv_add, bv_sub, bv_mul, bv_eql, bv_neq, bv_lss, bv_leq, bv_gtr, bv_geq, bv_quo, bv_rem, bv_shl, bv_shr, bv_seq, bv_sne, bv_ptr, bv_if, bv_map, bv_nf, bv_bool, bv_sl, bv_fn, uv_not, uv_neg, eqV, nilV, nc_ptr, nc_fn, nc_if, Option.map_some, toN, Nat.mul_one, implies_true, true_and, and_true, and_self]
    have e1 : strOfNums [((48 + m / 2 ^ i % 2 : Nat) : Int)] = txt [bitAt (m : Int) i] := by
      unfold txt; rw [hb]; simp
    rw [e1]
    refine cat_txt (by simp [bitsOf_length]; omega) ?_
    simp only [isB_i, isK_i, isP_i, isTup_i, isInt_i, isSl_i, isPtr_i, isCs_i, isStr_i, isFn_i, isIf_i, rd_i, br_t, br_f, orO_s, orO_n, gd_t, bv_add, bv_sub, bv_mul, bv_eql, bv_neq, bv_lss, bv_leq, bv_gtr, bv_geq, bv_quo, bv_rem, bv_shl, bv_shr, bv_seq, bv_sne, bv_ptr, bv_if, bv_map, bv_nf, bv_bool, bv_sl, bv_fn, uv_not, uv_neg, eqV, nilV, nc_ptr, nc_fn, nc_if, Option.map_some, toN, Nat.mul_one, implies_true, true_and, and_true, and_self]
    refine ⟨⟨i + 1, by omega, rfl, ?_, rfl, hF.trans hf11⟩, ?_⟩
    · show Value.string _ = _
      rw [bitsOf_succ]; rfl
    · show k - ((i : Int) + 1).toNat < k - (i : Int).toNat; omega
  · obtain rfl : i = k := by omega
    exact ⟨rfl, hF⟩
theorem val_take_succ {bs : List Int} {j : Nat} {b : Int} (h : bs[j]? = some b) : val (bs.take (j + 1)) = 2 * val (bs.take j) + b := by
  rw [List.take_add_one, h]
  exact val_snoc _ _
set_option maxRecDepth 20000 in
theorem number55_c {bs : List Int} (hb : ∀ b ∈ bs, Bit b) (hl : bs.length ≤ 64) : callV Try.prog 55 [.string (txt bs)] w fun v w' => v = .int .u64 (val bs) ∧ Fm none' w w' := by
  refine vc55 _ w _ ?_
  rw [txt_size]
  refine ⟨fun u w' => ∃ j : Nat, j ≤ bs.length ∧ u 3 = .int .u64 (val (bs.take j)) ∧ u 4 = .int .i64 j ∧ Fm none' w w', fun u _ => bs.length - (intOf (u 4)).toNat, ⟨0, by omega, rfl, rfl, Fm.refl _ _⟩, ?_⟩
  rintro u w3 ⟨j, hj, h3, h4, hF⟩
  change u 3 = _ at h3
  change u 4 = _ at h4
  simp only [h3, h4, isB_i, isK_i, isP_i, isTup_i, isInt_i, isSl_i, isPtr_i, isCs_i, isStr_i, isFn_i, isIf_i, rd_i, br_t, br_f, orO_s, orO_n, gd_t, bv_add, bv_sub, bv_mul, bv_eql, bv_neq, bv_lss, bv_leq, bv_gtr, bv_geq, bv_quo, bv_rem, bv_shl, bv_shr, bv_seq, bv_sne, bv_ptr, bv_if, bv_map, bv_nf, bv_bool, bv_sl, bv_fn, uv_not, uv_neg, eqV, nilV, nc_ptr, nc_fn, nc_if, Option.map_some, toN, Nat.mul_one, implies_true, true_and, and_true, and_self]
  refine br_dec (fun hjl => ?_) (fun hjl => ?_)
  · obtain ⟨b, hbj⟩ : ∃ b, bs[j]? = some b := ⟨bs[j]'(by omega), by simp⟩
    have hbb := hb b (List.mem_of_getElem? hbj)
    refine index_str (ys := bs.map (48 + ·)) (by rw [row9]) (txt_r hb) (by rw [List.getElem?_map, hbj]; rfl) ?_
    simp only [isB_i, isK_i, isP_i, isTup_i, isInt_i, isSl_i, isPtr_i, isCs_i, isStr_i, isFn_i, isIf_i, rd_i, br_t, br_f, orO_s, orO_n, gd_t, bv_add, bv_sub, bv_mul, bv_eql, bv_neq, bv_lss, bv_leq, bv_gtr, bv_geq, bv_quo, bv_rem, bv_shl, bv_shr, bv_seq, bv_sne, bv_ptr, bv_if, bv_map, bv_nf, bv_bool, bv_sl, bv_fn, uv_not, uv_neg, eqV, nilV, nc_ptr, nc_fn, nc_if, Option.map_some, toN, Nat.mul_one, implies_true, true_and, and_true, and_self]
    have hv := val_take_succ hbj
    have hlt := val_bound (bs := bs.take (j + 1)) fun x hx => hb x (List.mem_of_mem_take hx)
    have hl1 : (bs.take (j + 1)).length = j + 1 := by rw [List.length_take]; omega
    rw [hl1] at hlt
    have hpw : (2 : Int) ^ (j + 1) ≤ 18446744073709551616 := by
      have : (2 : Nat) ^ (j + 1) ≤ 2 ^ 64 := Nat.pow_le_pow_right (by omega) (by omega)
      have h64 : (2 : Nat) ^ 64 = 18446744073709551616 := rfl
      rw [h64] at this
      have h2 := Int.ofNat_le.2 this
      rw [Int.natCast_pow] at h2
      exact h2
    have h0 := (val_bound (bs := bs.take j) fun x hx => hb x (List.mem_of_mem_take hx)).1
    have e1 : IntKind.u8.wrap (48 + b - 48) = b := by rcases hbb with rfl | rfl <;> rfl
    unfold Bit at hbb
    rw [e1, u64w b, u64w (val (bs.take j) * 2), u64w, w64 (by omega)]
    refine ⟨⟨j + 1, by omega, ?_, rfl, hF⟩, ?_⟩
    · show Value.int _ _ = Value.int _ _
      congr 1
      rw [hv]
      omega
    · show bs.length - ((j : Int) + 1).toNat < bs.length - (j : Int).toNat; omega
  · have : j = bs.length := by omega
    subst this
    rw [List.take_length]
    exact ⟨rfl, hF⟩
end Go.Proofs.Ytfekkdmnboccfaa
