/- RingTableOnce comes to true and turns nothing that was there.  Conditions: the argument's cells hold numbers. -/
import Derived.Test.YtlhgibiffekpfaaShown
import Derived.Test.YtlhgibiffekpfaaC1
namespace Go.Proofs.Ytlhgibiffekpfaa
set_option linter.unusedSimpArgs false
set_option linter.unusedVariables false
open Go Go.RowKit VC
set_option maxHeartbeats 1000000 in
set_option maxRecDepth 20000 in
theorem once_c (a : Int) (bp : Option Addr) (bn bc : Nat) (ss : Nat → Int) (W : World) (hl : ∀ i, i < bn → ∃ ad, bp = some ad ∧ W.cell? (ad.add i) = some (.int .i64 (ss i))) :
    callV Try.prog 4 [.int .i64 a, .slice bp bn bc] W fun v w' => v = .bool true ∧ Fm none' W w' := by
  refine vc4 a bp bn bc W _ ?_
  obtain ⟨m, hm, hm1, hm2⟩ : ∃ m : Nat, IntKind.i64.wrap (1 + Int.tmod (andI .i64 a 65535) 20) = m ∧ 1 ≤ m ∧ m ≤ 20 := by
    obtain ⟨h1, h2⟩ := andI_le a 65535 (by omega)
    have h3 : Int.tmod (andI .i64 a 65535) 20 = andI .i64 a 65535 % 20 := Int.tmod_eq_emod_of_nonneg h1
    rw [h3, w64 (by omega)]
    exact ⟨(1 + andI .i64 a 65535 % 20).toNat, by omega, by omega, by omega⟩
  refine (shown_c W).mono ?_
  rintro _ w1 ⟨rfl, hf1⟩
  simp only [hm, isB_i, isK_i, isP_i, isTup_i, isInt_i, isSl_i, isPtr_i, isCs_i, isStr_i, isFn_i, isIf_i, rd_i, br_t, br_f, orO_s, orO_n, gd_t, bv_add, bv_sub, bv_mul, bv_eql, bv_neq, bv_lss, bv_leq, bv_gtr, bv_geq, bv_quo, bv_rem, bv_shl, bv_shr, bv_seq, bv_sne, bv_ptr, bv_if, bv_map, bv_nf, bv_bool, bv_sl, bv_fn, uv_not, uv_neg, eqV, nilV, nc_ptr, nc_fn, nc_if, Option.map_some, toN, Nat.mul_one, implies_true, true_and, and_true, and_self]
  refine (new16_c m w1).mono ?_
  rintro _ w4 ⟨B, M, rfl, hB, hM, hr, hf4⟩
  have hF := hf1.trans hf4
  have s1 := hf1.size
  rw [show max (m : Int) 1 = m by omega] at hr
  simp only [isB_i, isK_i, isP_i, isTup_i, isInt_i, isSl_i, isPtr_i, isCs_i, isStr_i, isFn_i, isIf_i, rd_i, br_t, br_f, orO_s, orO_n, gd_t, bv_add, bv_sub, bv_mul, bv_eql, bv_neq, bv_lss, bv_leq, bv_gtr, bv_geq, bv_quo, bv_rem, bv_shl, bv_shr, bv_seq, bv_sne, bv_ptr, bv_if, bv_map, bv_nf, bv_bool, bv_sl, bv_fn, uv_not, uv_neg, eqV, nilV, nc_ptr, nc_fn, nc_if, Option.map_some, toN, Nat.mul_one, implies_true, true_and, and_true, and_self, Option.isNone_some]
  refine ⟨fun u w' => ∃ (k last : Nat) (l : List (Int × Int)), k ≤ 100 ∧ last ≤ k ∧ u 7 = .int .i64 last ∧ u 8 = .int .i64 k ∧ TabAt (Value.int .i64) 85 w' B M m last l ∧ Fm none' W w', fun u _ => 100 - (intOf (u 8)).toNat, ?_, ?_⟩
  · exact ⟨0, 0, [], by omega, by omega, rfl, rfl, hr, hF⟩
  rintro u w9 ⟨k, last, l, hk, hlk, h7, h8, hr, hf⟩
  change u 7 = .int .i64 last at h7
  change u 8 = .int .i64 k at h8
  simp only [h7, h8, isB_i, isK_i, isP_i, isTup_i, isInt_i, isSl_i, isPtr_i, isCs_i, isStr_i, isFn_i, isIf_i, rd_i, br_t, br_f, orO_s, orO_n, gd_t, bv_add, bv_sub, bv_mul, bv_eql, bv_neq, bv_lss, bv_leq, bv_gtr, bv_geq, bv_quo, bv_rem, bv_shl, bv_shr, bv_seq, bv_sne, bv_ptr, bv_if, bv_map, bv_nf, bv_bool, bv_sl, bv_fn, uv_not, uv_neg, eqV, nilV, nc_ptr, nc_fn, nc_if, Option.map_some, toN, Nat.mul_one, implies_true, true_and, and_true, and_self]
  refine br_dec (fun hkn => ?_) (fun hkn => hf)
  refine br_dec (fun hkn2 => ?_) (fun hkn2 => hf)
  refine (len17_c hr).mono ?_
  rintro _ w14 ⟨rfl, rfl⟩
  simp only [isB_i, isK_i, isP_i, isTup_i, isInt_i, isSl_i, isPtr_i, isCs_i, isStr_i, isFn_i, isIf_i, rd_i, br_t, br_f, orO_s, orO_n, gd_t, bv_add, bv_sub, bv_mul, bv_eql, bv_neq, bv_lss, bv_leq, bv_gtr, bv_geq, bv_quo, bv_rem, bv_shl, bv_shr, bv_seq, bv_sne, bv_ptr, bv_if, bv_map, bv_nf, bv_bool, bv_sl, bv_fn, uv_not, uv_neg, eqV, nilV, nc_ptr, nc_fn, nc_if, Option.map_some, toN, Nat.mul_one, implies_true, true_and, and_true, and_self]
  refine (add18_c k hr (by omega)).mono ?_
  rintro _ w18 ⟨rfl, hr2, hf2⟩
  obtain ⟨i, e, hie, hst⟩ : ∃ i e : Nat, (if (m : Int) ≤ (l.length : Int) then Value.tuple #[.int .i64 0, .int .i64 5] else .tuple #[.int .i64 (last + 1), .int .i64 0]) = .tuple #[.int .i64 i, .int .i64 e] ∧ ((m ≤ l.length ∧ i = 0 ∧ e = 5) ∨ (l.length < m ∧ i = last + 1 ∧ e = 0)) := by
    by_cases h : m ≤ l.length
    · exact ⟨0, 5, by rw [if_pos (by omega)]; rfl, .inl ⟨h, rfl, rfl⟩⟩
    · exact ⟨last + 1, 0, by rw [if_neg (by omega)]; rfl, .inr ⟨by omega, rfl, rfl⟩⟩
  rw [hie]
  obtain ⟨last', l', hr3, hlast'⟩ : ∃ (last' : Nat) (l' : List (Int × Int)), TabAt (Value.int .i64) 85 w18 B M m last' l' ∧ last' = max last i := by
    rcases hst with ⟨h, hi, _⟩ | ⟨h, hi, _⟩
    · rw [if_pos (by omega), if_pos (by omega)] at hr2
      exact ⟨last, _, hr2, by omega⟩
    · rw [if_neg (by omega), if_neg (by omega)] at hr2
      exact ⟨last + 1, _, by exact_mod_cast hr2, by omega⟩
  have hF2 : Fm none' W w18 := hf.trans' hf2 (by rintro i hi (rfl | rfl) <;> omega)
  simp only [isB_i, isK_i, isP_i, isTup_i, isInt_i, isSl_i, isPtr_i, isCs_i, isStr_i, isFn_i, isIf_i, rd_i, br_t, br_f, orO_s, orO_n, gd_t, bv_add, bv_sub, bv_mul, bv_eql, bv_neq, bv_lss, bv_leq, bv_gtr, bv_geq, bv_quo, bv_rem, bv_shl, bv_shr, bv_seq, bv_sne, bv_ptr, bv_if, bv_map, bv_nf, bv_bool, bv_sl, bv_fn, uv_not, uv_neg, eqV, nilV, nc_ptr, nc_fn, nc_if, Option.map_some, toN, Nat.mul_one, implies_true, true_and, and_true, and_self, List.getElem?_cons_zero, List.getElem?_cons_succ]
  refine ⟨fun _ w' => w' = w18, ?_, ?_⟩
  · rcases hst with ⟨h, hi, he⟩ | ⟨h, hi, he⟩
    · subst hi he
      rw [w64 (by omega)]
      simp [br, show ¬ ((l.length : Int) < m) by omega]
    · subst hi he
      rw [w64 (by omega)]
      simp [br, show ((l.length : Int) < m) by omega]
  rintro u28 w29 rfl
  obtain ⟨ad, rfl, hc⟩ := hl k (by omega)
  simp only [isB_i, isK_i, isP_i, isTup_i, isInt_i, isSl_i, isPtr_i, isCs_i, isStr_i, isFn_i, isIf_i, rd_i, br_t, br_f, orO_s, orO_n, gd_t, bv_add, bv_sub, bv_mul, bv_eql, bv_neq, bv_lss, bv_leq, bv_gtr, bv_geq, bv_quo, bv_rem, bv_shl, bv_shr, bv_seq, bv_sne, bv_ptr, bv_if, bv_map, bv_nf, bv_bool, bv_sl, bv_fn, uv_not, uv_neg, eqV, nilV, nc_ptr, nc_fn, nc_if, Option.map_some, toN, Nat.mul_one, implies_true, true_and, and_true, and_self]
  refine ⟨by omega, rd_of (hF2.cell hc id) ?_⟩
  simp only [isB_i, isK_i, isP_i, isTup_i, isInt_i, isSl_i, isPtr_i, isCs_i, isStr_i, isFn_i, isIf_i, rd_i, br_t, br_f, orO_s, orO_n, gd_t, bv_add, bv_sub, bv_mul, bv_eql, bv_neq, bv_lss, bv_leq, bv_gtr, bv_geq, bv_quo, bv_rem, bv_shl, bv_shr, bv_seq, bv_sne, bv_ptr, bv_if, bv_map, bv_nf, bv_bool, bv_sl, bv_fn, uv_not, uv_neg, eqV, nilV, nc_ptr, nc_fn, nc_if, Option.map_some, toN, Nat.mul_one, implies_true, true_and, and_true, and_self]
  rw [w64 (by omega)]
  obtain ⟨h1, h2⟩ := andI_le (ss k) 65535 (by omega)
  rw [dv_ne _ (by omega)]
  simp only [isB_i, isK_i, isP_i, isTup_i, isInt_i, isSl_i, isPtr_i, isCs_i, isStr_i, isFn_i, isIf_i, rd_i, br_t, br_f, orO_s, orO_n, gd_t, bv_add, bv_sub, bv_mul, bv_eql, bv_neq, bv_lss, bv_leq, bv_gtr, bv_geq, bv_quo, bv_rem, bv_shl, bv_shr, bv_seq, bv_sne, bv_ptr, bv_if, bv_map, bv_nf, bv_bool, bv_sl, bv_fn, uv_not, uv_neg, eqV, nilV, nc_ptr, nc_fn, nc_if, Option.map_some, toN, Nat.mul_one, implies_true, true_and, and_true, and_self]
  generalize (andI IntKind.i64 (ss k) 65535).tmod _ = q
  refine (get19_c q hr3).mono ?_
  rintro _ w39 ⟨rfl, rfl⟩
  simp only [isB_i, isK_i, isP_i, isTup_i, isInt_i, isSl_i, isPtr_i, isCs_i, isStr_i, isFn_i, isIf_i, rd_i, br_t, br_f, orO_s, orO_n, gd_t, bv_add, bv_sub, bv_mul, bv_eql, bv_neq, bv_lss, bv_leq, bv_gtr, bv_geq, bv_quo, bv_rem, bv_shl, bv_shr, bv_seq, bv_sne, bv_ptr, bv_if, bv_map, bv_nf, bv_bool, bv_sl, bv_fn, uv_not, uv_neg, eqV, nilV, nc_ptr, nc_fn, nc_if, Option.map_some, toN, Nat.mul_one, implies_true, true_and, and_true, and_self, List.getElem?_cons_zero, List.getElem?_cons_succ]
  refine (drop20_c q hr3).mono ?_
  rintro _ w47 ⟨rfl, hr4, hf4⟩
  have hg := getM_del (k := q) hr3.2.nodup
  simp only [isB_i, isK_i, isP_i, isTup_i, isInt_i, isSl_i, isPtr_i, isCs_i, isStr_i, isFn_i, isIf_i, rd_i, br_t, br_f, orO_s, orO_n, gd_t, bv_add, bv_sub, bv_mul, bv_eql, bv_neq, bv_lss, bv_leq, bv_gtr, bv_geq, bv_quo, bv_rem, bv_shl, bv_shr, bv_seq, bv_sne, bv_ptr, bv_if, bv_map, bv_nf, bv_bool, bv_sl, bv_fn, uv_not, uv_neg, eqV, nilV, nc_ptr, nc_fn, nc_if, Option.map_some, toN, Nat.mul_one, implies_true, true_and, and_true, and_self]
  refine (get19_c q hr4).mono ?_
  rintro _ w50 ⟨rfl, rfl⟩
  simp only [isB_i, isK_i, isP_i, isTup_i, isInt_i, isSl_i, isPtr_i, isCs_i, isStr_i, isFn_i, isIf_i, rd_i, br_t, br_f, orO_s, orO_n, gd_t, bv_add, bv_sub, bv_mul, bv_eql, bv_neq, bv_lss, bv_leq, bv_gtr, bv_geq, bv_quo, bv_rem, bv_shl, bv_shr, bv_seq, bv_sne, bv_ptr, bv_if, bv_map, bv_nf, bv_bool, bv_sl, bv_fn, uv_not, uv_neg, eqV, nilV, nc_ptr, nc_fn, nc_if, Option.map_some, toN, Nat.mul_one, implies_true, true_and, and_true, and_self, List.getElem?_cons_zero, List.getElem?_cons_succ, hg, Option.isSome_none, decide_true, Bool.not_true]
  refine (put21_c q 5 hr4).mono ?_
  rintro _ w58 ⟨rfl, hr5, hf5⟩
  simp only [hg, Option.isSome_none, Bool.false_eq_true, if_false] at hr5 ⊢
  simp only [isB_i, isK_i, isP_i, isTup_i, isInt_i, isSl_i, isPtr_i, isCs_i, isStr_i, isFn_i, isIf_i, rd_i, br_t, br_f, orO_s, orO_n, gd_t, bv_add, bv_sub, bv_mul, bv_eql, bv_neq, bv_lss, bv_leq, bv_gtr, bv_geq, bv_quo, bv_rem, bv_shl, bv_shr, bv_seq, bv_sne, bv_ptr, bv_if, bv_map, bv_nf, bv_bool, bv_sl, bv_fn, uv_not, uv_neg, eqV, nilV, nc_ptr, nc_fn, nc_if, Option.map_some, toN, Nat.mul_one, implies_true, true_and, and_true, and_self]
  refine (drop20_c q hr5).mono ?_
  rintro _ w61 ⟨rfl, hr6, hf6⟩
  simp only [hg, Option.isSome_none] at hr6 ⊢
  simp only [isB_i, isK_i, isP_i, isTup_i, isInt_i, isSl_i, isPtr_i, isCs_i, isStr_i, isFn_i, isIf_i, rd_i, br_t, br_f, orO_s, orO_n, gd_t, bv_add, bv_sub, bv_mul, bv_eql, bv_neq, bv_lss, bv_leq, bv_gtr, bv_geq, bv_quo, bv_rem, bv_shl, bv_shr, bv_seq, bv_sne, bv_ptr, bv_if, bv_map, bv_nf, bv_bool, bv_sl, bv_fn, uv_not, uv_neg, eqV, nilV, nc_ptr, nc_fn, nc_if, Option.map_some, toN, Nat.mul_one, implies_true, true_and, and_true, and_self]
  rw [w64 (by omega)]
  have hF6 : Fm none' W w61 := ((hF2.trans' hf4 (by rintro i hi rfl; omega)).trans' hf5 (by rintro i hi rfl; omega)).trans' hf6 (by rintro i hi rfl; omega)
  refine ⟨⟨k + 1, last', _, by omega, by omega, ?_, rfl, hr6, hF6⟩, ?_⟩
  · show Value.int IntKind.i64 (max (last : Int) (i : Int)) = .int .i64 last'
    congr 1; omega
  · show 100 - ((k : Int) + 1).toNat < 100 - (k : Int).toNat; omega
end Go.Proofs.Ytlhgibiffekpfaa
