/- MailAgain comes to true and turns nothing that was there.  Conditions: the argument's cells hold strings. -/
import Derived.Test.YtmhbgaledhfpkaaOrd
namespace Go.Proofs.Ytmhbgaledhfpkaa
set_option linter.unusedSimpArgs false
set_option linter.unusedVariables false
open Go Go.RowKit Go.Conc VC

theorem put_step {w : World} {B C cap k : Nat} {ss : Nat → ByteArray} {L : Int} (h : BoxAt 51 w B C cap (strs ss (min k cap)) (L + ((k : Int) - (min k cap : Nat)))) (hk : k ≤ 400) (h0 : 0 ≤ L) (h1 : L ≤ 400) :
    callV Try.prog 9 [.pointer (some ⟨B, 0, none⟩), .string (ss k)] w fun _ w' => BoxAt 51 w' B C cap (strs ss (min (k + 1) cap)) (L + (((k + 1 : Nat) : Int) - (min (k + 1) cap : Nat))) ∧ Fm (fun i => i = B ∨ i = C) w w' := by
  refine (put9_c _ h (by omega) (by omega)).mono ?_
  rintro _ w20 ⟨-, hb', hf'⟩
  refine ⟨?_, hf'⟩
  rw [strs_length] at hb'
  by_cases hr : k < cap
  · have hk1 : min k cap = k := by omega
    have hk2 : min (k + 1) cap = k + 1 := by omega
    rw [hk1] at hb'
    rw [if_pos (by omega), if_pos (by omega), ← strs_succ] at hb'
    rw [hk2, show L + (((k + 1 : Nat) : Int) - ((k + 1 : Nat) : Int)) = L + ((k : Int) - (k : Int)) by omega]
    exact hb'
  · have hk1 : min k cap = cap := by omega
    have hk2 : min (k + 1) cap = cap := by omega
    rw [hk1] at hb'
    rw [if_neg (by omega), if_neg (by omega)] at hb'
    rw [hk2, show L + (((k + 1 : Nat) : Int) - (cap : Int)) = L + ((k : Int) - (cap : Int)) + 1 by omega]
    exact hb'

set_option maxHeartbeats 1000000 in
set_option maxRecDepth 20000 in
theorem again_c (a : Int) (bp : Option Addr) (bn bc : Nat) (ss : Nat → ByteArray) (W : World) (hl : ∀ i, i < bn → ∃ ad, bp = some ad ∧ W.cell? (ad.add i) = some (.string (ss i))) (hbn : bn ≤ bc) (hbc : bc ≤ maxLen) :
    callV Try.prog 6 [.int .i64 a, .slice bp bn bc] W fun v w' => v = .bool true ∧ Fm none' W w' := by
  refine vc6 a bp bn bc W _ ?_
  refine (shown_c W).mono ?_
  rintro _ w1 ⟨rfl, hf1⟩
  refine (new8_c a w1).mono ?_
  rintro _ w3 ⟨B, C, rfl, hB, hC, hb, hf3⟩
  have hF := hf1.trans hf3
  have s1 := hf1.size; have s3 := hf3.size
  obtain ⟨cap, hcap⟩ : ∃ c, c = room a := ⟨_, rfl⟩
  rw [← hcap] at hb
  have hcap1 : 1 ≤ cap ∧ cap ≤ 4096 := by unfold room at hcap; omega
  simp only [isB_i, isTup_i, isInt_i, isSl_i, isPtr_i, isCs_i, isStr_i, isFn_i, isIf_i, rd_i, br_t, br_f, orO_s, orO_n, gd_t, bv_add, bv_sub, bv_mul, bv_eql, bv_neq, bv_lss, bv_leq, bv_gtr, bv_geq, bv_quo, bv_rem, bv_shl, bv_shr, bv_seq, bv_sne, bv_ptr, bv_if, bv_map, bv_nf, bv_bool, bv_sl, bv_fn, uv_not, uv_neg, eqV, nilV, nc_ptr, nc_fn, nc_if, Option.map_some, toN, Nat.mul_one, implies_true, true_and, and_true, and_self, row24, Option.isNone_some]
  refine sliceAt_hi (by rw [row22]) row9 (by omega) (by omega) ?_
  obtain ⟨n, hn⟩ : ∃ n, n = min bn 100 := ⟨_, rfl⟩
  have hn' : (min (bn : Int) 100).toNat = n := by omega
  rw [hn']
  have hlp : ∀ i, i < n → ∃ ad, (if bc = 0 then bp else bp.map (·.add 0)) = some ad ∧ W.cell? (ad.add i) = some (.string (ss i)) := by
    intro i hi
    obtain ⟨ad, rfl, h⟩ := hl i (by omega)
    refine ⟨ad.add 0, by rw [if_neg (by omega)]; rfl, ?_⟩
    rw [← h]
    simp [Addr.add]
  generalize (if bc = 0 then bp else bp.map (·.add 0)) = p' at hlp ⊢
  refine ⟨fun u w' => ∃ k : Nat, k ≤ n ∧ u 7 = .int .i64 k ∧ BoxAt 51 w' B C cap (strs ss (min k cap)) (0 + ((k : Int) - (min k cap : Nat))) ∧ Fm none' W w', fun u _ => n - (intOf (u 7)).toNat, ?_, ?_⟩
  · exact ⟨0, by omega, rfl, by simpa [strs] using hb, hF⟩
  rintro u w11 ⟨k, hk, h7, hb, hf⟩
  change u 7 = .int .i64 k at h7
  simp only [h7, isB_i, isTup_i, isInt_i, isSl_i, isPtr_i, isCs_i, isStr_i, isFn_i, isIf_i, rd_i, br_t, br_f, orO_s, orO_n, gd_t, bv_add, bv_sub, bv_mul, bv_eql, bv_neq, bv_lss, bv_leq, bv_gtr, bv_geq, bv_quo, bv_rem, bv_shl, bv_shr, bv_seq, bv_sne, bv_ptr, bv_if, bv_map, bv_nf, bv_bool, bv_sl, bv_fn, uv_not, uv_neg, eqV, nilV, nc_ptr, nc_fn, nc_if, Option.map_some, toN, Nat.mul_one, implies_true, true_and, and_true, and_self]
  refine br_dec (fun hkn => ?_) (fun hkn => ?_)
  · obtain ⟨ad, rfl, hc⟩ := hlp k (by omega)
    refine rd_of (v := ad) rfl ⟨by omega, rd_of (hf.cell hc id) ?_⟩
    refine (put_step hb (by omega) (by omega) (by omega)).mono ?_
    rintro _ w26 ⟨hb2, hf2⟩
    rw [w64 (by omega)]
    refine ⟨⟨k + 1, by omega, rfl, hb2, hf.trans' hf2 (by rintro i hi (rfl | rfl) <;> omega)⟩, ?_⟩
    show n - ((k : Int) + 1).toNat < n - (k : Int).toNat; omega
  have hkn : k = n := by omega
  rw [hkn] at hb
  clear h7 hk hkn
  obtain ⟨c, hc⟩ : ∃ c, c = min n cap := ⟨_, rfl⟩
  obtain ⟨L, hL⟩ : ∃ L : Int, L = (n : Int) - c := ⟨_, rfl⟩
  have hb0 : BoxAt 51 w11 B C cap (strs ss c) L := by
    rw [hL, hc]
    have := hb
    rw [show (0 : Int) + ((n : Int) - (min n cap : Nat)) = (n : Int) - (min n cap : Nat) by omega] at this
    exact this
  refine (drain24_c hb0 (strs_one ss c) (by rw [strs_length]; omega)).mono ?_
  rintro v28 w29 ⟨hb1, ho1, hf2⟩
  have hF2 : Fm none' W w29 := hf.trans' hf2 (by rintro i hi rfl; omega)
  rw [strs_length] at ho1
  have ho1 := own_base ho1 hf.size
  refine (lost11_c hb1).mono ?_
  rintro _ w29 ⟨rfl, rfl⟩
  refine ⟨fun u w' => ∃ k : Nat, k ≤ n ∧ u 10 = .int .i64 k ∧ BoxAt 51 w' B C cap (strs ss (min k cap)) (L + ((k : Int) - (min k cap : Nat))) ∧ w'.ownsRow W.heap.size 9 1 v28 c (strs ss c) ∧ Fm none' W w', fun u _ => n - (intOf (u 10)).toNat, ?_, ?_⟩
  · exact ⟨0, by omega, rfl, by simpa [strs] using hb1, ho1, hF2⟩
  rintro u w35 ⟨k, hk, h10, hb3, ho3, hf3⟩
  change u 10 = .int .i64 k at h10
  simp only [h10, isB_i, isTup_i, isInt_i, isSl_i, isPtr_i, isCs_i, isStr_i, isFn_i, isIf_i, rd_i, br_t, br_f, orO_s, orO_n, gd_t, bv_add, bv_sub, bv_mul, bv_eql, bv_neq, bv_lss, bv_leq, bv_gtr, bv_geq, bv_quo, bv_rem, bv_shl, bv_shr, bv_seq, bv_sne, bv_ptr, bv_if, bv_map, bv_nf, bv_bool, bv_sl, bv_fn, uv_not, uv_neg, eqV, nilV, nc_ptr, nc_fn, nc_if, Option.map_some, toN, Nat.mul_one, implies_true, true_and, and_true, and_self]
  refine br_dec (fun hkn => ?_) (fun hkn => ?_)
  · obtain ⟨ad, rfl, hc⟩ := hlp k (by omega)
    refine rd_of (v := ad) rfl ⟨by omega, rd_of (hf3.cell hc id) ?_⟩
    refine (put_step hb3 (by omega) (by omega) (by omega)).mono ?_
    rintro _ w50 ⟨hb4, hf4⟩
    rw [w64 (by omega)]
    refine ⟨⟨k + 1, by omega, rfl, hb4, hf4.owns ho3 (apart_box hb3 ho3 (by decide)), hf3.trans' hf4 (by rintro i hi (rfl | rfl) <;> omega)⟩, ?_⟩
    show n - ((k : Int) + 1).toNat < n - (k : Int).toNat; omega
  have hkn : k = n := by omega
  rw [hkn, ← hc, ← hL] at hb3
  clear h10 hk hkn
  refine (drain24_c hb3 (strs_one ss c) (by rw [strs_length]; omega)).mono ?_
  rintro v52 w53 ⟨hb5, ho5, hf5⟩
  have ho6 := hf5.owns ho3 (fun i hi e => apart_box hb3 ho3 (by decide) i hi (.inr e))
  have hF5 : Fm none' W w53 := hf3.trans' hf5 (by rintro i hi rfl; omega)
  rw [strs_length] at ho5
  obtain ⟨p1, c1, rfl, h1⟩ := own_read ho6
  obtain ⟨p2, c2, rfl, h2⟩ := own_read ho5
  simp only [isB_i, isTup_i, isInt_i, isSl_i, isPtr_i, isCs_i, isStr_i, isFn_i, isIf_i, rd_i, br_t, br_f, orO_s, orO_n, gd_t, bv_add, bv_sub, bv_mul, bv_eql, bv_neq, bv_lss, bv_leq, bv_gtr, bv_geq, bv_quo, bv_rem, bv_shl, bv_shr, bv_seq, bv_sne, bv_ptr, bv_if, bv_map, bv_nf, bv_bool, bv_sl, bv_fn, uv_not, uv_neg, eqV, nilV, nc_ptr, nc_fn, nc_if, Option.map_some, toN, Nat.mul_one, implies_true, true_and, and_true, and_self]
  refine br_ndec (fun h => by simp at h) (fun _ => ?_)
  refine (lost11_c hb5).mono ?_
  rintro _ w53 ⟨rfl, rfl⟩
  simp only [isB_i, isTup_i, isInt_i, isSl_i, isPtr_i, isCs_i, isStr_i, isFn_i, isIf_i, rd_i, br_t, br_f, orO_s, orO_n, gd_t, bv_add, bv_sub, bv_mul, bv_eql, bv_neq, bv_lss, bv_leq, bv_gtr, bv_geq, bv_quo, bv_rem, bv_shl, bv_shr, bv_seq, bv_sne, bv_ptr, bv_if, bv_map, bv_nf, bv_bool, bv_sl, bv_fn, uv_not, uv_neg, eqV, nilV, nc_ptr, nc_fn, nc_if, Option.map_some, toN, Nat.mul_one, implies_true, true_and, and_true, and_self]
  rw [w64 (by omega)]
  refine br_ndec (fun h => absurd (by omega) h) (fun _ => ?_)
  refine (len10_c hb5).mono ?_
  rintro _ w53 ⟨rfl, rfl⟩
  simp only [isB_i, isTup_i, isInt_i, isSl_i, isPtr_i, isCs_i, isStr_i, isFn_i, isIf_i, rd_i, br_t, br_f, orO_s, orO_n, gd_t, bv_add, bv_sub, bv_mul, bv_eql, bv_neq, bv_lss, bv_leq, bv_gtr, bv_geq, bv_quo, bv_rem, bv_shl, bv_shr, bv_seq, bv_sne, bv_ptr, bv_if, bv_map, bv_nf, bv_bool, bv_sl, bv_fn, uv_not, uv_neg, eqV, nilV, nc_ptr, nc_fn, nc_if, Option.map_some, toN, Nat.mul_one, implies_true, true_and, and_true, and_self]
  refine br_ndec (fun h => by simp at h) (fun _ => ?_)
  refine ⟨fun u w' => ∃ k : Nat, k ≤ c ∧ u 12 = .int .i64 k ∧ Fm none' w53 w', fun u _ => c - (intOf (u 12)).toNat, ?_, ?_⟩
  · exact ⟨0, by omega, rfl, Fm.refl _ _⟩
  rintro u w72 ⟨k, hk, h12, hf6⟩
  change u 12 = .int .i64 k at h12
  simp only [h12, isB_i, isTup_i, isInt_i, isSl_i, isPtr_i, isCs_i, isStr_i, isFn_i, isIf_i, rd_i, br_t, br_f, orO_s, orO_n, gd_t, bv_add, bv_sub, bv_mul, bv_eql, bv_neq, bv_lss, bv_leq, bv_gtr, bv_geq, bv_quo, bv_rem, bv_shl, bv_shr, bv_seq, bv_sne, bv_ptr, bv_if, bv_map, bv_nf, bv_bool, bv_sl, bv_fn, uv_not, uv_neg, eqV, nilV, nc_ptr, nc_fn, nc_if, Option.map_some, toN, Nat.mul_one, implies_true, true_and, and_true, and_self]
  have hf7 := hf6.trans (Fm.drew w72)
  refine br_dec (fun hkn => ?_) (fun hkn => ?_)
  · obtain ⟨g1, rfl, -, -, e1⟩ := h1 k _ (strs_get ss c k (by omega))
    obtain ⟨g2, rfl, -, -, e2⟩ := h2 k _ (strs_get ss c k (by omega))
    obtain ⟨ad, rfl, e3⟩ := hlp k (by omega)
    simp only [isB_i, isTup_i, isInt_i, isSl_i, isPtr_i, isCs_i, isStr_i, isFn_i, isIf_i, rd_i, br_t, br_f, orO_s, orO_n, gd_t, bv_add, bv_sub, bv_mul, bv_eql, bv_neq, bv_lss, bv_leq, bv_gtr, bv_geq, bv_quo, bv_rem, bv_shl, bv_shr, bv_seq, bv_sne, bv_ptr, bv_if, bv_map, bv_nf, bv_bool, bv_sl, bv_fn, uv_not, uv_neg, eqV, nilV, nc_ptr, nc_fn, nc_if, Option.map_some, toN, Nat.mul_one, implies_true, true_and, and_true, and_self]
    refine ⟨by omega, rd_of (hf7.cell e1 id) ⟨by omega, rd_of (hf7.cell e2 id) ?_⟩⟩
    simp only [isB_i, isTup_i, isInt_i, isSl_i, isPtr_i, isCs_i, isStr_i, isFn_i, isIf_i, rd_i, br_t, br_f, orO_s, orO_n, gd_t, bv_add, bv_sub, bv_mul, bv_eql, bv_neq, bv_lss, bv_leq, bv_gtr, bv_geq, bv_quo, bv_rem, bv_shl, bv_shr, bv_seq, bv_sne, bv_ptr, bv_if, bv_map, bv_nf, bv_bool, bv_sl, bv_fn, uv_not, uv_neg, eqV, nilV, nc_ptr, nc_fn, nc_if, Option.map_some, toN, Nat.mul_one, implies_true, true_and, and_true, and_self]
    refine br_ndec (fun h => by simp at h) (fun _ => ?_)
    refine ⟨by omega, rd_of (hf7.cell e1 id) ⟨by omega, rd_of ((hF5.trans hf7).cell e3 id) ?_⟩⟩
    simp only [isB_i, isTup_i, isInt_i, isSl_i, isPtr_i, isCs_i, isStr_i, isFn_i, isIf_i, rd_i, br_t, br_f, orO_s, orO_n, gd_t, bv_add, bv_sub, bv_mul, bv_eql, bv_neq, bv_lss, bv_leq, bv_gtr, bv_geq, bv_quo, bv_rem, bv_shl, bv_shr, bv_seq, bv_sne, bv_ptr, bv_if, bv_map, bv_nf, bv_bool, bv_sl, bv_fn, uv_not, uv_neg, eqV, nilV, nc_ptr, nc_fn, nc_if, Option.map_some, toN, Nat.mul_one, implies_true, true_and, and_true, and_self]
    refine br_ndec (fun h => by simp at h) (fun _ => ?_)
    rw [w64 (by omega)]
    refine ⟨⟨k + 1, by omega, rfl, hf7⟩, ?_⟩
    show c - ((k : Int) + 1).toNat < c - (k : Int).toNat; omega
  · rw [w64 (by omega)]
    refine ⟨?_, hF5.trans hf6⟩
    congr 1
    exact decide_eq_true (by omega)
end Go.Proofs.Ytmhbgaledhfpkaa
