/- MailOrder comes to true and turns nothing that was there.  Conditions: the argument's cells hold strings. -/
import Derived.Test.YtmhbgaledhfpkaaShown
import Derived.Test.YtmhbgaledhfpkaaC1
namespace Go.Proofs.Ytmhbgaledhfpkaa
set_option linter.unusedSimpArgs false
set_option linter.unusedVariables false
open Go Go.RowKit Go.Conc VC
/-- The strings as values. -/
def strs (ss : Nat → ByteArray) (c : Nat) : List Value := (List.range c).map fun j => .string (ss j)
theorem strs_length (ss : Nat → ByteArray) (c : Nat) : (strs ss c).length = c := by simp [strs]
theorem strs_succ (ss : Nat → ByteArray) (c : Nat) : strs ss (c + 1) = strs ss c ++ [.string (ss c)] := by simp [strs, List.range_succ]
theorem strs_get (ss : Nat → ByteArray) (c j : Nat) (h : j < c) : (strs ss c)[j]? = some (.string (ss j)) := by simp [strs, h]
theorem strs_drop (ss : Nat → ByteArray) (c j : Nat) (h : j < c) : (strs ss c).drop j = .string (ss j) :: (strs ss c).drop (j + 1) := by
  rw [List.drop_eq_getElem_cons (by rw [strs_length]; exact h)]
  congr 1
  have := strs_get ss c j h
  rw [List.getElem?_eq_getElem (by rw [strs_length]; exact h)] at this
  exact Option.some.inj this
theorem strs_one (ss : Nat → ByteArray) (c : Nat) : ∀ x ∈ strs ss c, x.oneCell' = true := by
  intro x hx
  simp only [strs, List.mem_map] at hx
  obtain ⟨_, _, rfl⟩ := hx
  rfl
/-- An owned row and a box are apart. -/
theorem apart_box {T e : TypeId} {w : World} {B C cap : Nat} {buf : List Value} {lost : Int} {base size : Nat} {v : Value} {n : Nat} {xs : List Value} (hb : BoxAt T w B C cap buf lost) (ho : w.ownsRow base e size v n xs) (hT : T ≠ e) :
    ∀ i, v.ownBlock = some i → ¬ (i = B ∨ i = C) := by
  intro i hi
  obtain ⟨h1, s, r, h2⟩ := hb
  obtain ⟨_, cur, hgg⟩ := own_block ho hi
  rintro (rfl | rfl)
  · rw [h1] at hgg; cases hgg; exact hT rfl
  · rw [h2] at hgg; cases hgg

set_option maxHeartbeats 1000000 in
set_option maxRecDepth 20000 in
theorem order_c (a : Int) (bp : Option Addr) (bn bc : Nat) (ss : Nat → ByteArray) (w : World) (hl : ∀ i, i < bn → ∃ ad, bp = some ad ∧ w.cell? (ad.add i) = some (.string (ss i))) (hbn : bn ≤ 140737488351232) :
    callV Try.prog 3 [.int .i64 a, .slice bp bn bc] w fun v w' => v = .bool true ∧ Fm none' w w' := by
  refine vc3 a bp bn bc w _ ?_
  refine (shown_c w).mono ?_
  rintro _ w1 ⟨rfl, hf1⟩
  refine (new8_c a w1).mono ?_
  rintro _ w3 ⟨B, C, rfl, hB, hC, hb, hf⟩
  have hB' : w.heap.size ≤ B := Nat.le_trans hf1.size hB
  have hC' : w.heap.size ≤ C := Nat.le_trans hf1.size hC
  have hf3 := hf1.trans hf
  clear hf hf1 hB hC
  obtain ⟨cap, hcap⟩ : ∃ cap, cap = room a := ⟨_, rfl⟩
  rw [← hcap] at hb
  have hcapi : (cap : Int) = min (max a 1) 4096 := by rw [hcap]; unfold room; omega
  have hcap1 : 1 ≤ cap ∧ cap ≤ 4096 := by omega
  simp only [isB_i, isTup_i, isInt_i, isSl_i, isPtr_i, isCs_i, isStr_i, isFn_i, isIf_i, rd_i, br_t, br_f, orO_s, orO_n, gd_t, bv_add, bv_sub, bv_mul, bv_eql, bv_neq, bv_lss, bv_leq, bv_gtr, bv_geq, bv_quo, bv_rem, bv_shl, bv_shr, bv_seq, bv_sne, bv_ptr, bv_if, bv_map, bv_nf, bv_bool, bv_sl, bv_fn, uv_not, uv_neg, eqV, nilV, Option.map_some, toN, Nat.mul_one, row24, Option.isNone_some]
  refine ⟨fun u w' => BoxAt 51 w' B C cap (strs ss (min (min bn 200) cap)) ((min bn 200 : Nat) - (min (min bn 200) cap : Nat)) ∧ w'.ownsRow w.heap.size 9 1 (u 7) (min (min bn 200) cap) (strs ss (min (min bn 200) cap)) ∧ Fm none' w w', ?_, ?_⟩
  · refine ⟨fun u w' => ∃ k : Nat, k ≤ bn ∧ k ≤ 200 ∧ u 8 = .int .i64 k ∧ BoxAt 51 w' B C cap (strs ss (min k cap)) ((k : Int) - (min k cap : Nat)) ∧ w'.ownsRow w.heap.size 9 1 (u 7) (min k cap) (strs ss (min k cap)) ∧ Fm none' w w',
      fun u _ => 200 - (intOf (u 8)).toNat, ?_, ?_⟩
    · exact ⟨0, by omega, by omega, rfl, by simpa [strs] using hb, World.ownsRow_nil w3 w.heap.size 9 1, hf3⟩
    rintro u w9 ⟨k, hkn, hk2, h8, hb, ho, hf⟩
    change u 8 = .int .i64 k at h8
    change w9.ownsRow _ _ _ (u 7) _ _ at ho
    generalize u 7 = s at *
    simp only [h8, isB_i, isTup_i, isInt_i, isSl_i, isPtr_i, isCs_i, isStr_i, isFn_i, isIf_i, rd_i, br_t, br_f, orO_s, orO_n, gd_t, bv_add, bv_sub, bv_mul, bv_eql, bv_neq, bv_lss, bv_leq, bv_gtr, bv_geq, bv_quo, bv_rem, bv_shl, bv_shr, bv_seq, bv_sne, bv_ptr, bv_if, bv_map, bv_nf, bv_bool, bv_sl, bv_fn, uv_not, uv_neg, eqV, nilV, Option.map_some, toN, Nat.mul_one]
    refine br_dec (fun hkb => ?_) (fun hkb => ?_)
    · refine br_dec (fun hk200 => ?_) (fun hk200 => ?_)
      · obtain ⟨ad, rfl, hc⟩ := hl k (by omega)
        refine ⟨by omega, rd_of (hf.cell hc id) ?_⟩
        refine (put9_c _ hb (by omega) (by omega)).mono ?_
        rintro _ w20 ⟨rfl, hb', hf'⟩
        have ha := apart_box hb ho (by decide)
        have ho' := hf'.owns ho ha
        have hf2 : Fm none' w w20 := hf.trans' hf' (by rintro i hi (rfl | rfl) <;> omega)
        rw [strs_length] at hb'
        simp only [isB_i, isTup_i, isInt_i, isSl_i, isPtr_i, isCs_i, isStr_i, isFn_i, isIf_i, rd_i, br_t, br_f, orO_s, orO_n, gd_t, bv_add, bv_sub, bv_mul, bv_eql, bv_neq, bv_lss, bv_leq, bv_gtr, bv_geq, bv_quo, bv_rem, bv_shl, bv_shr, bv_seq, bv_sne, bv_ptr, bv_if, bv_map, bv_nf, bv_bool, bv_sl, bv_fn, uv_not, uv_neg, eqV, nilV, Option.map_some, toN, Nat.mul_one]
        rw [strs_length]
        refine br_dec (fun hr => ?_) (fun hr => ?_)
        · have hk1 : min k cap = k := by omega
          have hk2 : min (k + 1) cap = k + 1 := by omega
          refine ⟨by omega, rd_of (hf2.cell hc id) ?_⟩
          rw [hk1] at ho' hb'
          rw [if_pos (by omega), if_pos (by omega), ← strs_succ] at hb'
          refine append_one (by rw [row22]) row9 rfl rfl ho' hf2.size (by unfold maxLen; omega) (by omega) ?_
          intro v' w' ho2 hf3 _
          have ha2 := apart_box hb' ho' (by decide)
          rw [← strs_succ] at ho2
          rw [w64 (by omega)]
          refine ⟨⟨k + 1, by omega, by omega, rfl, ?_, ?_, ?_⟩, ?_⟩
          · rw [hk2]
            have := hb'.keep hf3 (fun h => ha2 _ h (.inl rfl)) (fun h => ha2 _ h (.inr rfl))
            rw [show ((k + 1 : Nat) : Int) - ((k + 1 : Nat) : Int) = (k : Int) - (k : Int) by omega]
            exact this
          · rw [hk2]; exact ho2
          · exact hf2.trans' hf3 (fun i hi h => by have := (own_block ho' h).1; omega)
          · show 200 - ((k : Int) + 1).toNat < 200 - (k : Int).toNat; omega
        · have hk1 : min k cap = cap := by omega
          have hk2 : min (k + 1) cap = cap := by omega
          rw [hk1] at ho' hb'
          rw [if_neg (by omega), if_neg (by omega)] at hb'
          rw [w64 (by omega)]
          refine ⟨⟨k + 1, by omega, by omega, rfl, ?_, ?_, hf2⟩, ?_⟩
          · rw [hk2, show ((k + 1 : Nat) : Int) - (cap : Int) = (k : Int) - (cap : Int) + 1 by omega]
            exact hb'
          · rw [hk2]; exact ho'
          · show 200 - ((k : Int) + 1).toNat < 200 - (k : Int).toNat; omega
      · have : k = min bn 200 := by omega
        subst this
        exact ⟨hb, ho, hf⟩
    · have : k = min bn 200 := by omega
      subst this
      exact ⟨hb, ho, hf⟩
  · rintro u w9 ⟨hb, ho, hf⟩
    change w9.ownsRow _ _ _ (u 7) _ _ at ho
    generalize u 7 = s at *
    obtain ⟨c, hc⟩ : ∃ c, c = min (min bn 200) cap := ⟨_, rfl⟩
    rw [← hc] at hb ho
    obtain ⟨p, cp, rfl, hown⟩ := own_read ho
    have ha := apart_box hb ho (by decide)
    simp only [isB_i, isTup_i, isInt_i, isSl_i, isPtr_i, isCs_i, isStr_i, isFn_i, isIf_i, rd_i, br_t, br_f, orO_s, orO_n, gd_t, bv_add, bv_sub, bv_mul, bv_eql, bv_neq, bv_lss, bv_leq, bv_gtr, bv_geq, bv_quo, bv_rem, bv_shl, bv_shr, bv_seq, bv_sne, bv_ptr, bv_if, bv_map, bv_nf, bv_bool, bv_sl, bv_fn, uv_not, uv_neg, eqV, nilV, Option.map_some, toN, Nat.mul_one]
    refine br_ndec (fun h => absurd ?_ h) (fun _ => ?_)
    · omega
    refine (len10_c hb).mono ?_
    rintro _ w9 ⟨rfl, rfl⟩
    simp only [isB_i, isTup_i, isInt_i, isSl_i, isPtr_i, isCs_i, isStr_i, isFn_i, isIf_i, rd_i, br_t, br_f, orO_s, orO_n, gd_t, bv_add, bv_sub, bv_mul, bv_eql, bv_neq, bv_lss, bv_leq, bv_gtr, bv_geq, bv_quo, bv_rem, bv_shl, bv_shr, bv_seq, bv_sne, bv_ptr, bv_if, bv_map, bv_nf, bv_bool, bv_sl, bv_fn, uv_not, uv_neg, eqV, nilV, Option.map_some, toN, Nat.mul_one]
    rw [strs_length]
    refine br_ndec (fun h => absurd rfl h) (fun _ => ?_)
    refine (lost11_c hb).mono ?_
    rintro _ w9 ⟨rfl, rfl⟩
    simp only [isB_i, isTup_i, isInt_i, isSl_i, isPtr_i, isCs_i, isStr_i, isFn_i, isIf_i, rd_i, br_t, br_f, orO_s, orO_n, gd_t, bv_add, bv_sub, bv_mul, bv_eql, bv_neq, bv_lss, bv_leq, bv_gtr, bv_geq, bv_quo, bv_rem, bv_shl, bv_shr, bv_seq, bv_sne, bv_ptr, bv_if, bv_map, bv_nf, bv_bool, bv_sl, bv_fn, uv_not, uv_neg, eqV, nilV, Option.map_some, toN, Nat.mul_one]
    rw [w64 (by omega)]
    refine br_ndec (fun h => absurd ?_ h) (fun _ => ?_)
    · omega
    refine ⟨fun u w' => ∃ j : Nat, j ≤ c ∧ u 11 = .int .i64 j ∧ BoxAt 51 w' B C cap ((strs ss c).drop j) ((min bn 200 : Nat) - (c : Nat)) ∧ Fm (fun i => i = C) w9 w', fun u _ => c - (intOf (u 11)).toNat, ?_, ?_⟩
    · exact ⟨0, by omega, rfl, hb, Fm.refl _ _⟩
    rintro u w10 ⟨j, hj, h11, hb1, hf1⟩
    change u 11 = .int .i64 j at h11
    simp only [h11, isB_i, isTup_i, isInt_i, isSl_i, isPtr_i, isCs_i, isStr_i, isFn_i, isIf_i, rd_i, br_t, br_f, orO_s, orO_n, gd_t, bv_add, bv_sub, bv_mul, bv_eql, bv_neq, bv_lss, bv_leq, bv_gtr, bv_geq, bv_quo, bv_rem, bv_shl, bv_shr, bv_seq, bv_sne, bv_ptr, bv_if, bv_map, bv_nf, bv_bool, bv_sl, bv_fn, uv_not, uv_neg, eqV, nilV, Option.map_some, toN, Nat.mul_one]
    refine br_dec (fun hjc => ?_) (fun hjc => ?_)
    · have hjc : j < c := by omega
      refine (take12_c hb1).mono ?_
      rintro _ w11 ⟨rfl, hb2, hf2⟩
      rw [strs_drop _ _ _ hjc] at hb2 ⊢
      have hf3 : Fm (fun i => i = C) w9 w11 := hf1.trans hf2
      obtain ⟨g, rfl, hg, hgs, hcell⟩ := hown j _ (strs_get ss c j hjc)
      obtain ⟨ad, rfl, hcl⟩ := hl j (by omega)
      have hne := ha _ hgs
      simp only [List.headD_cons, List.isEmpty_cons, List.tail_cons, Bool.not_false, Bool.not_true, isB_i, isTup_i, isInt_i, isSl_i, isPtr_i, isCs_i, isStr_i, isFn_i, isIf_i, rd_i, br_t, br_f, orO_s, orO_n, gd_t, bv_add, bv_sub, bv_mul, bv_eql, bv_neq, bv_lss, bv_leq, bv_gtr, bv_geq, bv_quo, bv_rem, bv_shl, bv_shr, bv_seq, bv_sne, bv_ptr, bv_if, bv_map, bv_nf, bv_bool, bv_sl, bv_fn, uv_not, uv_neg, eqV, nilV, Option.map_some, toN, Nat.mul_one, List.getElem?_cons_zero, List.getElem?_cons_succ]
      refine ⟨by omega, rd_of (hf3.cell hcell (by simpa [addr_add] using fun h => hne (.inr h))) ?_⟩
      simp only [isB_i, isTup_i, isInt_i, isSl_i, isPtr_i, isCs_i, isStr_i, isFn_i, isIf_i, rd_i, br_t, br_f, orO_s, orO_n, gd_t, bv_add, bv_sub, bv_mul, bv_eql, bv_neq, bv_lss, bv_leq, bv_gtr, bv_geq, bv_quo, bv_rem, bv_shl, bv_shr, bv_seq, bv_sne, bv_ptr, bv_if, bv_map, bv_nf, bv_bool, bv_sl, bv_fn, uv_not, uv_neg, eqV, nilV, Option.map_some, toN, Nat.mul_one]
      refine br_ndec (fun h => by simp at h) (fun _ => ?_)
      refine ⟨by omega, rd_of ((hf.trans' hf3 (by rintro i hi rfl; omega)).cell hcl id) ?_⟩
      simp only [isB_i, isTup_i, isInt_i, isSl_i, isPtr_i, isCs_i, isStr_i, isFn_i, isIf_i, rd_i, br_t, br_f, orO_s, orO_n, gd_t, bv_add, bv_sub, bv_mul, bv_eql, bv_neq, bv_lss, bv_leq, bv_gtr, bv_geq, bv_quo, bv_rem, bv_shl, bv_shr, bv_seq, bv_sne, bv_ptr, bv_if, bv_map, bv_nf, bv_bool, bv_sl, bv_fn, uv_not, uv_neg, eqV, nilV, Option.map_some, toN, Nat.mul_one]
      refine br_ndec (fun h => by simp at h) (fun _ => ?_)
      rw [w64 (by omega)]
      refine ⟨⟨j + 1, by omega, rfl, hb2, hf3⟩, ?_⟩
      show c - ((j : Int) + 1).toNat < c - (j : Int).toNat; omega
    · have : j = c := by omega
      subst this
      rw [show (strs ss j).drop j = [] by rw [List.drop_eq_nil_iff, strs_length]; omega] at hb1
      refine (take12_c hb1).mono ?_
      rintro _ w11 ⟨rfl, hb2, hf2⟩
      simp only [isB_i, isTup_i, isInt_i, isSl_i, isPtr_i, isCs_i, isStr_i, isFn_i, isIf_i, rd_i, br_t, br_f, orO_s, orO_n, gd_t, bv_add, bv_sub, bv_mul, bv_eql, bv_neq, bv_lss, bv_leq, bv_gtr, bv_geq, bv_quo, bv_rem, bv_shl, bv_shr, bv_seq, bv_sne, bv_ptr, bv_if, bv_map, bv_nf, bv_bool, bv_sl, bv_fn, uv_not, uv_neg, eqV, nilV, Option.map_some, toN, Nat.mul_one, List.getElem?_cons_zero, List.getElem?_cons_succ]
      refine (put9_c _ hb2 (by omega) (by omega)).mono ?_
      rintro _ w12 ⟨rfl, hb3, hf3⟩
      have h0 : ([] : List Value).tail.length < cap := hcap1.1
      rw [if_pos h0, if_pos h0] at hb3
      simp only [List.tail_nil, List.length_nil, List.headD_nil, List.isEmpty_nil, Bool.not_true, Bool.not_false, isB_i, isTup_i, isInt_i, isSl_i, isPtr_i, isCs_i, isStr_i, isFn_i, isIf_i, rd_i, br_t, br_f, orO_s, orO_n, gd_t, bv_add, bv_sub, bv_mul, bv_eql, bv_neq, bv_lss, bv_leq, bv_gtr, bv_geq, bv_quo, bv_rem, bv_shl, bv_shr, bv_seq, bv_sne, bv_ptr, bv_if, bv_map, bv_nf, bv_bool, bv_sl, bv_fn, uv_not, uv_neg, eqV, nilV, Option.map_some, toN, Nat.mul_one]
      refine br_dec (fun _ => ?_) (fun h => by simp at h)
      refine br_dec (fun _ => ?_) (fun h => absurd (by omega) h)
      refine (len10_c hb3).mono ?_
      rintro _ _ ⟨rfl, rfl⟩
      refine ⟨rfl, (hf.trans' (hf1.trans hf2) (by rintro i hi rfl; omega)).trans' hf3 (by rintro i hi (rfl | rfl) <;> omega)⟩
end Go.Proofs.Ytmhbgaledhfpkaa
