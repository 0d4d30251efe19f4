/- the reference's reader.  Conditions: the reader lies as it is said to lie. -/
import Derived.Test.YtfekkdmnboccfaaRBi
import Derived.Test.YtfekkdmnboccfaaD2
namespace Go.Proofs.Ytfekkdmnboccfaa
set_option linter.unusedSimpArgs false
set_option linter.unusedVariables false
open Go Go.RowKit VC
variable {w : World} {R : Nat} {s : RS}

theorem pow_int {a k c : Nat} (h : a ≤ k) (hc : 2 ^ k = c) : (2 : Int) ^ a ≤ (c : Int) := by
  have := Nat.pow_le_pow_right (n := 2) (by omega) h
  rw [hc] at this
  have h2 := Int.ofNat_le.2 this
  rw [Int.natCast_pow] at h2
  exact h2
def RefAt (w : World) (R : Nat) (s : RS) : Prop :=
  ∃ rem : List Int, w.heap[R]? = some (.cells #[.string (txt rem), .int .i64 s.e] 79 (0, 0)) ∧ (s.e = 0 → rem = s.rem) ∧ (∀ b ∈ rem, Bit b) ∧ rem.length ≤ 1000000
theorem RefAt.keep {w' : World} {S : Nat → Prop} (h : RefAt w R s) (f : Fm S w w') (hS : ¬ S R) : RefAt w' R s := by
  obtain ⟨rem, h1, h2⟩ := h
  exact ⟨rem, f.keep h1 hS, h2⟩
theorem slice_txt_h {bs : List Int} {h : Nat} {K : Value → World → Prop} (hh : h ≤ bs.length) (k : K (.string (txt (bs.take h))) w) : runs Try.prog (Instr.sliceAt 9 (.string (txt bs)) none (some (.int .i64 (h : Int))) none) w K := by
  have hu := string_of_row (P := Try.prog) (t := 9) (by rw [row9])
  refine ⟨_, _, ?_, k⟩
  rw [run_sliceAt_string w 9 _ _ _ _ hu, run_slice_string_h w 9 _ hu _ _ (by omega) (by rw [txt_size]; omega)]
  unfold txt
  rw [Int.toNat_natCast, extract_str, List.drop_zero, List.map_take]
theorem slice_txt_l {bs : List Int} {h : Nat} {K : Value → World → Prop} (hh : h ≤ bs.length) (k : K (.string (txt (bs.drop h))) w) : runs Try.prog (Instr.sliceAt 9 (.string (txt bs)) (some (.int .i64 (h : Int))) none none) w K := by
  have hu := string_of_row (P := Try.prog) (t := 9) (by rw [row9])
  refine ⟨_, _, ?_, k⟩
  rw [run_sliceAt_string w 9 _ _ _ _ hu, run_slice_string_l w 9 _ hu _ _ (by omega) (by rw [txt_size]; omega)]
  unfold txt
  rw [Int.toNat_natCast, extract_str, strOfNums_size, List.take_length, List.map_drop]
theorem failE_ne {e n : Int} {ok : Bool} (h : e ≠ 0) : failE e ok n = e := by unfold failE; rw [if_neg (fun x => h x.2)]
set_option maxRecDepth 20000 in
theorem take54_c {k : Nat} (hk : k ≤ 64) (h : RefAt w R s) : callV Try.prog 54 [.pointer (some ⟨R, 0, none⟩), .int .i64 k] w fun v w' =>
    ∃ x, v = .string (txt x) ∧ x.length ≤ k ∧ (∀ b ∈ x, Bit b) ∧ (s.e = 0 → x = if s.rem.length < k then [] else s.rem.take k) ∧ RefAt w' R (rdW k s).2 ∧ Fm (fun i => i = R) w w' := by
  obtain ⟨rem, h1, h2, h3, h4⟩ := h
  refine vc54 ⟨R, 0, none⟩ k w _ ?_
  simp only [addr_add, Nat.zero_add]
  refine rd_of (v := .int .i64 s.e) (cellOf h1 rfl) ?_
  simp only [isB_i, isK_i, isP_i, isTup_i, isInt_i, isSl_i, isPtr_i, isCs_i, isStr_i, isFn_i, isIf_i, rd_i, br_t, br_f, orO_s, orO_n, gd_t, bv_add, bv_sub, bv_mul, bv_eql, bv_neq, bv_lss, bv_leq, bv_gtr, bv_geq, bv_quo, bv_rem, bv_shl, bv_shr, bv_seq, bv_sne, bv_ptr, bv_if, bv_map, bv_nf, bv_bool, bv_sl, bv_fn, uv_not, uv_neg, eqV, nilV, nc_ptr, nc_fn, nc_if, Option.map_some, toN, Nat.mul_one, implies_true, true_and, and_true, and_self]
  have nilx : ∀ b ∈ ([] : List Int), Bit b := fun b hb => by cases hb
  refine br_dec (fun he => ?_) (fun he => ?_)
  · have hrem := h2 he
    subst hrem
    refine rd_of (v := .string (txt s.rem)) (cellOf h1 rfl) ?_
    simp only [isB_i, isK_i, isP_i, isTup_i, isInt_i, isSl_i, isPtr_i, isCs_i, isStr_i, isFn_i, isIf_i, rd_i, br_t, br_f, orO_s, orO_n, gd_t, bv_add, bv_sub, bv_mul, bv_eql, bv_neq, bv_lss, bv_leq, bv_gtr, bv_geq, bv_quo, bv_rem, bv_shl, bv_shr, bv_seq, bv_sne, bv_ptr, bv_if, bv_map, bv_nf, bv_bool, bv_sl, bv_fn, uv_not, uv_neg, eqV, nilV, nc_ptr, nc_fn, nc_if, Option.map_some, toN, Nat.mul_one, implies_true, true_and, and_true, and_self, txt_size]
    refine br_dec (fun hl => ?_) (fun hl => ?_)
    · refine stC_one h1 (by simp) rfl fun w4 hw4 hf4 => ?_
      refine rd_of (v := .int .i64 2) (cellOf hw4 rfl) ?_
      simp only [isB_i, isK_i, isP_i, isTup_i, isInt_i, isSl_i, isPtr_i, isCs_i, isStr_i, isFn_i, isIf_i, rd_i, br_t, br_f, orO_s, orO_n, gd_t, bv_add, bv_sub, bv_mul, bv_eql, bv_neq, bv_lss, bv_leq, bv_gtr, bv_geq, bv_quo, bv_rem, bv_shl, bv_shr, bv_seq, bv_sne, bv_ptr, bv_if, bv_map, bv_nf, bv_bool, bv_sl, bv_fn, uv_not, uv_neg, eqV, nilV, nc_ptr, nc_fn, nc_if, Option.map_some, toN, Nat.mul_one, implies_true, true_and, and_true, and_self]
      refine br_ndec (fun _ => ?_) (fun h => by omega)
      refine ⟨[], rfl, by simp, nilx, fun _ => by rw [if_pos (by omega)], ?_, hf4⟩
      have hs : (rdW k s).2 = ⟨[], 2⟩ := by
        unfold rdW getR failE
        rw [if_pos (by omega), he]; simp
      rw [hs]
      exact ⟨s.rem, hw4, fun h => by simp at h, h3, h4⟩
    · refine rd_of (v := .int .i64 s.e) (cellOf h1 rfl) ?_
      simp only [isB_i, isK_i, isP_i, isTup_i, isInt_i, isSl_i, isPtr_i, isCs_i, isStr_i, isFn_i, isIf_i, rd_i, br_t, br_f, orO_s, orO_n, gd_t, bv_add, bv_sub, bv_mul, bv_eql, bv_neq, bv_lss, bv_leq, bv_gtr, bv_geq, bv_quo, bv_rem, bv_shl, bv_shr, bv_seq, bv_sne, bv_ptr, bv_if, bv_map, bv_nf, bv_bool, bv_sl, bv_fn, uv_not, uv_neg, eqV, nilV, nc_ptr, nc_fn, nc_if, Option.map_some, toN, Nat.mul_one, implies_true, true_and, and_true, and_self]
      refine br_ndec (fun h => absurd he h) (fun _ => ?_)
      refine rd_of (v := .string (txt s.rem)) (cellOf h1 rfl) ?_
      simp only [isB_i, isK_i, isP_i, isTup_i, isInt_i, isSl_i, isPtr_i, isCs_i, isStr_i, isFn_i, isIf_i, rd_i, br_t, br_f, orO_s, orO_n, gd_t, bv_add, bv_sub, bv_mul, bv_eql, bv_neq, bv_lss, bv_leq, bv_gtr, bv_geq, bv_quo, bv_rem, bv_shl, bv_shr, bv_seq, bv_sne, bv_ptr, bv_if, bv_map, bv_nf, bv_bool, bv_sl, bv_fn, uv_not, uv_neg, eqV, nilV, nc_ptr, nc_fn, nc_if, Option.map_some, toN, Nat.mul_one, implies_true, true_and, and_true, and_self]
      refine slice_txt_h (by omega) ?_
      simp only [isB_i, isK_i, isP_i, isTup_i, isInt_i, isSl_i, isPtr_i, isCs_i, isStr_i, isFn_i, isIf_i, rd_i, br_t, br_f, orO_s, orO_n, gd_t, bv_add, bv_sub, bv_mul, bv_eql, bv_neq, bv_lss, bv_leq, bv_gtr, bv_geq, bv_quo, bv_rem, bv_shl, bv_shr, bv_seq, bv_sne, bv_ptr, bv_if, bv_map, bv_nf, bv_bool, bv_sl, bv_fn, uv_not, uv_neg, eqV, nilV, nc_ptr, nc_fn, nc_if, Option.map_some, toN, Nat.mul_one, implies_true, true_and, and_true, and_self]
      refine rd_of (v := .string (txt s.rem)) (cellOf h1 rfl) ?_
      simp only [isB_i, isK_i, isP_i, isTup_i, isInt_i, isSl_i, isPtr_i, isCs_i, isStr_i, isFn_i, isIf_i, rd_i, br_t, br_f, orO_s, orO_n, gd_t, bv_add, bv_sub, bv_mul, bv_eql, bv_neq, bv_lss, bv_leq, bv_gtr, bv_geq, bv_quo, bv_rem, bv_shl, bv_shr, bv_seq, bv_sne, bv_ptr, bv_if, bv_map, bv_nf, bv_bool, bv_sl, bv_fn, uv_not, uv_neg, eqV, nilV, nc_ptr, nc_fn, nc_if, Option.map_some, toN, Nat.mul_one, implies_true, true_and, and_true, and_self]
      refine slice_txt_l (by omega) ?_
      simp only [isB_i, isK_i, isP_i, isTup_i, isInt_i, isSl_i, isPtr_i, isCs_i, isStr_i, isFn_i, isIf_i, rd_i, br_t, br_f, orO_s, orO_n, gd_t, bv_add, bv_sub, bv_mul, bv_eql, bv_neq, bv_lss, bv_leq, bv_gtr, bv_geq, bv_quo, bv_rem, bv_shl, bv_shr, bv_seq, bv_sne, bv_ptr, bv_if, bv_map, bv_nf, bv_bool, bv_sl, bv_fn, uv_not, uv_neg, eqV, nilV, nc_ptr, nc_fn, nc_if, Option.map_some, toN, Nat.mul_one, implies_true, true_and, and_true, and_self]
      refine stC_one h1 (by simp) rfl fun w4 hw4 hf4 => ?_
      refine ⟨s.rem.take k, rfl, by rw [List.length_take]; omega, fun b hb => h3 b (List.mem_of_mem_take hb), fun _ => by rw [if_neg (by omega)], ?_, hf4⟩
      have hs : (rdW k s).2 = ⟨s.rem.drop k, s.e⟩ := by
        unfold rdW getR failE
        rw [if_neg (by omega)]; simp
      rw [hs]
      exact ⟨s.rem.drop k, hw4, fun _ => rfl, fun b hb => h3 b (List.mem_of_mem_drop hb), by rw [List.length_drop]; omega⟩
  · refine rd_of (v := .int .i64 s.e) (cellOf h1 rfl) ?_
    simp only [isB_i, isK_i, isP_i, isTup_i, isInt_i, isSl_i, isPtr_i, isCs_i, isStr_i, isFn_i, isIf_i, rd_i, br_t, br_f, orO_s, orO_n, gd_t, bv_add, bv_sub, bv_mul, bv_eql, bv_neq, bv_lss, bv_leq, bv_gtr, bv_geq, bv_quo, bv_rem, bv_shl, bv_shr, bv_seq, bv_sne, bv_ptr, bv_if, bv_map, bv_nf, bv_bool, bv_sl, bv_fn, uv_not, uv_neg, eqV, nilV, nc_ptr, nc_fn, nc_if, Option.map_some, toN, Nat.mul_one, implies_true, true_and, and_true, and_self]
    refine br_ndec (fun _ => ?_) (fun h => absurd h he)
    refine ⟨[], rfl, by simp, nilx, fun h => absurd h he, ?_, Fm.refl _ _⟩
    have hs : (rdW k s).2 = ⟨(getR k s.rem).2.1, s.e⟩ := by
      unfold rdW
      simp only [failE_ne he]
    rw [hs]
    exact ⟨rem, h1, fun h => absurd h he, h3, h4⟩
theorem rdW_val {k : Nat} (s : RS) : (rdW k s).1 = val (if s.rem.length < k then [] else s.rem.take k) := by
  unfold rdW getR
  split <;> rfl
theorem number34_c {k : Nat} (hk : k ≤ 62) (h : RefAt w R s) : callV Try.prog 34 [.pointer (some ⟨R, 0, none⟩), .int .i64 k] w fun v w' =>
    ∃ x, v = .int .i64 x ∧ (0 ≤ x ∧ x < 2 ^ k) ∧ (s.e = 0 → x = (rdW k s).1) ∧ RefAt w' R (rdW k s).2 ∧ Fm (fun i => i = R) w w' := by
  refine vc34 ⟨R, 0, none⟩ k w _ ?_
  refine (take54_c (by omega) h).mono ?_
  rintro _ w1 ⟨x, rfl, hl, hb, hx, hr, hf⟩
  simp only [isB_i, isK_i, isP_i, isTup_i, isInt_i, isSl_i, isPtr_i, isCs_i, isStr_i, isFn_i, isIf_i, rd_i, br_t, br_f, orO_s, orO_n, gd_t, bv_add, bv_sub, bv_mul, bv_eql, bv_neq, bv_lss, bv_leq, bv_gtr, bv_geq, bv_quo, bv_rem, bv_shl, bv_shr, bv_seq, bv_sne, bv_ptr, bv_if, bv_map, bv_nf, bv_bool, bv_sl, bv_fn, uv_not, uv_neg, eqV, nilV, nc_ptr, nc_fn, nc_if, Option.map_some, toN, Nat.mul_one, implies_true, true_and, and_true, and_self]
  refine (number55_c hb (by omega)).mono ?_
  rintro _ w4 ⟨rfl, hf4⟩
  simp only [isB_i, isK_i, isP_i, isTup_i, isInt_i, isSl_i, isPtr_i, isCs_i, isStr_i, isFn_i, isIf_i, rd_i, br_t, br_f, orO_s, orO_n, gd_t, bv_add, bv_sub, bv_mul, bv_eql, bv_neq, bv_lss, bv_leq, bv_gtr, bv_geq, bv_quo, bv_rem, bv_shl, bv_shr, bv_seq, bv_sne, bv_ptr, bv_if, bv_map, bv_nf, bv_bool, bv_sl, bv_fn, uv_not, uv_neg, eqV, nilV, nc_ptr, nc_fn, nc_if, Option.map_some, toN, Nat.mul_one, implies_true, true_and, and_true, and_self]
  have hv := val_bound hb
  have hp : (2 : Int) ^ x.length ≤ 2 ^ k := by
    have := Nat.pow_le_pow_right (n := 2) (by omega) hl
    exact_mod_cast this
  have hp2 : (2 : Int) ^ k ≤ 2 ^ 62 := by
    have := Nat.pow_le_pow_right (n := 2) (by omega) hk
    exact_mod_cast this
  have h62 : (2 : Int) ^ 62 = 4611686018427387904 := rfl
  rw [w64 (by omega)]
  refine ⟨_, rfl, ⟨hv.1, by omega⟩, fun he => ?_, hr.keep hf4 id, hf.trans' hf4 fun i _ h => h.elim⟩
  rw [rdW_val, hx he]
theorem sgn_eq {k : Nat} (hk : k = 8 ∨ k = 18 ∨ k = 32) {v : Int} (h : 0 ≤ v ∧ v < 2 ^ k) : sgn k v = if 2 ^ (k - 1) ≤ v then v - 2 ^ k else v := by
  unfold sgn
  rw [u64w, IntKind.wrap_i64]
  rcases hk with rfl | rfl | rfl <;> simp only [Nat.reduceSub, Int.reducePow] at h ⊢ <;> rw [Int.fdiv_eq_ediv_of_nonneg _ (by omega)] <;> split <;> omega
theorem txt_nil {bs : List Int} (h : txt bs = ({ data := #[] } : ByteArray)) : bs = [] := by
  have := congrArg ByteArray.size h
  rw [txt_size] at this
  exact List.length_eq_zero_iff.1 this
set_option maxRecDepth 20000 in
theorem signed63_c {bs : List Int} (hb : ∀ b ∈ bs, Bit b) (hl : bs.length ≤ 32) : callV Try.prog 63 [.string (txt bs)] w fun v w' => v = .int .i64 (if bs ≠ [] ∧ 2 ^ (bs.length - 1) ≤ val bs then val bs - 2 ^ bs.length else val bs) ∧ Fm none' w w' := by
  refine vc63 _ w _ ?_
  refine (number55_c hb (by omega)).mono ?_
  rintro _ w1 ⟨rfl, hf1⟩
  simp only [isB_i, isK_i, isP_i, isTup_i, isInt_i, isSl_i, isPtr_i, isCs_i, isStr_i, isFn_i, isIf_i, rd_i, br_t, br_f, orO_s, orO_n, gd_t, bv_add, bv_sub, bv_mul, bv_eql, bv_neq, bv_lss, bv_leq, bv_gtr, bv_geq, bv_quo, bv_rem, bv_shl, bv_shr, bv_seq, bv_sne, bv_ptr, bv_if, bv_map, bv_nf, bv_bool, bv_sl, bv_fn, uv_not, uv_neg, eqV, nilV, nc_ptr, nc_fn, nc_if, Option.map_some, toN, Nat.mul_one, implies_true, true_and, and_true, and_self, txt_size]
  have hv := val_bound hb
  have hp : (2 : Int) ^ bs.length ≤ 4294967296 := by
    exact pow_int (c := 4294967296) hl rfl
  have hw : IntKind.i64.wrap (val bs) = val bs := w64 (by omega)
  refine br_ndec (fun hne => ?_) (fun he => ?_)
  · have hne' : bs ≠ [] := by rintro rfl; exact hne rfl
    obtain ⟨b, t, rfl⟩ := List.exists_cons_of_ne_nil hne'
    have hbb := hb b (by simp)
    refine index_str (ys := (b :: t).map (48 + ·)) (j := 0) (by rw [row9]) (txt_r hb) rfl ?_
    simp only [isB_i, isK_i, isP_i, isTup_i, isInt_i, isSl_i, isPtr_i, isCs_i, isStr_i, isFn_i, isIf_i, rd_i, br_t, br_f, orO_s, orO_n, gd_t, bv_add, bv_sub, bv_mul, bv_eql, bv_neq, bv_lss, bv_leq, bv_gtr, bv_geq, bv_quo, bv_rem, bv_shl, bv_shr, bv_seq, bv_sne, bv_ptr, bv_if, bv_map, bv_nf, bv_bool, bv_sl, bv_fn, uv_not, uv_neg, eqV, nilV, nc_ptr, nc_fn, nc_if, Option.map_some, toN, Nat.mul_one, implies_true, true_and, and_true, and_self]
    have hvt := val_bound (bs := t) fun x hx => hb x (by simp [hx])
    have hvc := val_cons b t
    have hpw : (2 : Int) ^ (b :: t).length = 2 * 2 ^ t.length := by rw [List.length_cons, Int.pow_succ]; omega
    have hl1 : (b :: t).length - 1 = t.length := by simp
    rw [hl1]
    refine br_dec (fun h49 => ?_) (fun h49 => ?_)
    · obtain rfl : b = 1 := by omega
      refine br_dec (fun _ => ?_) (fun h => absurd (by omega) h)
      have hs : min ((1 :: t).length % 18446744073709551616) 64 = (1 :: t).length := by rw [Nat.mod_eq_of_lt (by omega)]; omega
      rw [hs, hw, Int.one_mul, w64 (n := 2 ^ (1 :: t).length) (by omega), w64 (by omega)]
      refine ⟨?_, hf1⟩
      rw [if_pos ⟨by simp, by omega⟩]
    · obtain rfl : b = 0 := by rcases hbb with h | h; exact h; omega
      rw [hw]
      refine ⟨?_, hf1⟩
      rw [if_neg (by rintro ⟨_, h⟩; omega)]
  · have := txt_nil he
    subst this
    exact ⟨rfl, hf1⟩
theorem signed56_c {k : Nat} (hk : k = 8 ∨ k = 18 ∨ k = 32) (h : RefAt w R s) : callV Try.prog 56 [.pointer (some ⟨R, 0, none⟩), .int .i64 k] w fun v w' =>
    ∃ x, v = .int .i64 x ∧ I64 x ∧ (s.e = 0 → x = (rdS k s).1) ∧ RefAt w' R (rdS k s).2 ∧ Fm (fun i => i = R) w w' := by
  refine vc56 ⟨R, 0, none⟩ k w _ ?_
  refine (take54_c (by omega) h).mono ?_
  rintro _ w1 ⟨x, rfl, hl, hb, hx, hr, hf⟩
  simp only [isB_i, isK_i, isP_i, isTup_i, isInt_i, isSl_i, isPtr_i, isCs_i, isStr_i, isFn_i, isIf_i, rd_i, br_t, br_f, orO_s, orO_n, gd_t, bv_add, bv_sub, bv_mul, bv_eql, bv_neq, bv_lss, bv_leq, bv_gtr, bv_geq, bv_quo, bv_rem, bv_shl, bv_shr, bv_seq, bv_sne, bv_ptr, bv_if, bv_map, bv_nf, bv_bool, bv_sl, bv_fn, uv_not, uv_neg, eqV, nilV, nc_ptr, nc_fn, nc_if, Option.map_some, toN, Nat.mul_one, implies_true, true_and, and_true, and_self]
  refine (signed63_c hb (by omega)).mono ?_
  rintro _ w4 ⟨rfl, hf4⟩
  simp only [isB_i, isK_i, isP_i, isTup_i, isInt_i, isSl_i, isPtr_i, isCs_i, isStr_i, isFn_i, isIf_i, rd_i, br_t, br_f, orO_s, orO_n, gd_t, bv_add, bv_sub, bv_mul, bv_eql, bv_neq, bv_lss, bv_leq, bv_gtr, bv_geq, bv_quo, bv_rem, bv_shl, bv_shr, bv_seq, bv_sne, bv_ptr, bv_if, bv_map, bv_nf, bv_bool, bv_sl, bv_fn, uv_not, uv_neg, eqV, nilV, nc_ptr, nc_fn, nc_if, Option.map_some, toN, Nat.mul_one, implies_true, true_and, and_true, and_self]
  have hv := val_bound hb
  have hp : (2 : Int) ^ x.length ≤ 4294967296 := by
    exact pow_int (c := 4294967296) (show x.length ≤ 32 by omega) rfl
  refine ⟨_, rfl, ?_, fun he => ?_, hr.keep hf4 id, hf.trans' hf4 fun i _ h => h.elim⟩
  · unfold I64; split <;> omega
  · have h1 : (rdS k s).1 = sgn k (rdW k s).1 := rfl
    rw [h1, rdW_val, hx he]
    by_cases hs : s.rem.length < k
    · rw [if_pos hs]
      have : sgn k (val []) = 0 := by rcases hk with rfl | rfl | rfl <;> decide
      rw [this]; rfl
    · rw [if_neg hs]
      have hxl : (s.rem.take k).length = k := by rw [List.length_take]; omega
      have hxb := hb
      rw [hx he, if_neg hs] at hxb
      have hv2 := val_bound hxb
      rw [hxl] at hv2
      rw [sgn_eq hk hv2, hxl]
      have hne : s.rem.take k ≠ [] := by intro h; rw [h] at hxl; simp at hxl; omega
      simp [hne]
theorem must35_c {ok ok' : Bool} (hok : s.e = 0 → ok = ok') (h : RefAt w R s) : callV Try.prog 35 [.pointer (some ⟨R, 0, none⟩), .bool ok] w fun v w' => v = .tuple #[] ∧ RefAt w' R (rdF ok' s) ∧ Fm (fun i => i = R) w w' := by
  obtain ⟨rem, h1, h2, h3, h4⟩ := h
  refine vc35 ⟨R, 0, none⟩ ok w _ ?_
  simp only [addr_add, Nat.zero_add]
  have same : (s.e ≠ 0 ∨ ok = true) → RefAt w R (rdF ok' s) := by
    intro hc
    have : rdF ok' s = s := by
      by_cases he : s.e = 0
      · have : ok' = true := by rw [← hok he]; exact hc.resolve_left (fun h => h he)
        rw [this, rdF_true]
      · unfold rdF; rw [failE_ne he]
    rw [this]
    exact ⟨rem, h1, h2, h3, h4⟩
  refine br_ndec' (fun hf => ?_) (fun ht => ⟨trivial, same (.inr ht), Fm.refl _ _⟩)
  refine rd_of (v := .int .i64 s.e) (cellOf h1 rfl) ?_
  simp only [isB_i, isK_i, isP_i, isTup_i, isInt_i, isSl_i, isPtr_i, isCs_i, isStr_i, isFn_i, isIf_i, rd_i, br_t, br_f, orO_s, orO_n, gd_t, bv_add, bv_sub, bv_mul, bv_eql, bv_neq, bv_lss, bv_leq, bv_gtr, bv_geq, bv_quo, bv_rem, bv_shl, bv_shr, bv_seq, bv_sne, bv_ptr, bv_if, bv_map, bv_nf, bv_bool, bv_sl, bv_fn, uv_not, uv_neg, eqV, nilV, nc_ptr, nc_fn, nc_if, Option.map_some, toN, Nat.mul_one, implies_true, true_and, and_true, and_self]
  refine br_dec (fun he => ?_) (fun he => ⟨same (.inl he), Fm.refl _ _⟩)
  refine stC_one h1 (by simp) rfl fun w2 hw2 hf2 => ⟨?_, hf2⟩
  have : rdF ok' s = ⟨s.rem, 3⟩ := by
    unfold rdF failE
    rw [if_pos ⟨by rw [← hok he]; exact hf, he⟩]
  rw [this]
  exact ⟨rem, hw2, fun h => by simp at h, h3, h4⟩
theorem id58_c (h : RefAt w R s) : callV Try.prog 58 [.pointer (some ⟨R, 0, none⟩)] w fun v w' => ∃ x, v = .int .i64 x ∧ I64 x ∧ (s.e = 0 → x = (rdId s).1) ∧ RefAt w' R (rdId s).2 ∧ Fm (fun i => i = R) w w' := by
  refine vc58 ⟨R, 0, none⟩ w _ ?_
  refine (number34_c (k := 31) (by omega) h).mono ?_
  rintro _ w1 ⟨x, rfl, hr, hx, h1, hf1⟩
  simp only [isB_i, isK_i, isP_i, isTup_i, isInt_i, isSl_i, isPtr_i, isCs_i, isStr_i, isFn_i, isIf_i, rd_i, br_t, br_f, orO_s, orO_n, gd_t, bv_add, bv_sub, bv_mul, bv_eql, bv_neq, bv_lss, bv_leq, bv_gtr, bv_geq, bv_quo, bv_rem, bv_shl, bv_shr, bv_seq, bv_sne, bv_ptr, bv_if, bv_map, bv_nf, bv_bool, bv_sl, bv_fn, uv_not, uv_neg, eqV, nilV, nc_ptr, nc_fn, nc_if, Option.map_some, toN, Nat.mul_one, implies_true, true_and, and_true, and_self]
  have hw : IntKind.i64.wrap x = x := w64 (by omega)
  have heq : s.e = 0 → IntKind.i64.wrap (rdW 31 s).1 = x := fun he => by rw [← hx he, hw]
  refine (must35_c (ok' := decide (0 < IntKind.i64.wrap (rdW 31 s).1)) (fun he => ?_) h1).mono ?_
  · rw [heq ((good_W 31).back s he)]
  rintro _ w4 ⟨rfl, h4, hf4⟩
  exact ⟨x, rfl, by unfold I64; omega, fun he => (heq he).symm, h4, hf1.trans hf4⟩
set_option maxRecDepth 20000 in
theorem vec57_c {k : Nat} {d : Int} (hk : k = 8 ∨ k = 18 ∨ k = 32) (hd : I64 d) (h : RefAt w R s) : callV Try.prog 57 [.pointer (some ⟨R, 0, none⟩), .int .i64 k, .int .i64 d] w fun v w' =>
    ∃ x y z, v = .agg #[.int .i64 x, .int .i64 y, .int .i64 z] ∧ (s.e = 0 → x = (stepV k d s).1) ∧ ((stepV k d s).2.e = 0 → y = (stepV k d (stepV k d s).2).1) ∧ ((stepV k d (stepV k d s).2).2.e = 0 → z = (stepV k d (stepV k d (stepV k d s).2).2).1) ∧
      RefAt w' R (stepV k d (stepV k d (stepV k d s).2).2).2 ∧ Fm (fun i => i = R) w w' := by
  obtain ⟨rem0, hR0, -⟩ := id h
  have hRl := lt_of_blk hR0
  refine vc57 ⟨R, 0, none⟩ k d w _ ?_
  refine allocC_of fun w1 hb1 hs1 hf1 => allocC_of fun w3 hb3 hs3 hf3 => ?_
  obtain ⟨A, hA⟩ : ∃ A, A = w.heap.size := ⟨_, rfl⟩
  obtain ⟨X, hX⟩ : ∃ X, X = w1.heap.size := ⟨_, rfl⟩
  have hA3 := hf3.keep hb1 id
  rw [← hA] at hA3 ⊢
  rw [← hX] at hb3 ⊢
  refine stC_all hb3 rfl (by intro v hv; simp at hv; subst hv; rfl) fun w4 hb4 hf4 => ?_
  have hF4 : Fm (fun i => i = R) w w4 := (hf1.trans hf3).none.trans' hf4 (by rintro i hi rfl; omega)
  have h4 : RefAt w4 R s := ((h.keep hf1 id).keep hf3 id).keep hf4 (by omega)
  have hA4 := hf4.keep hA3 (by omega)
  -- one axis
  have must : ∀ {w : World} {s : RS} {i : Nat} {C : Array Value} {x : Int} {K : World → Prop}, RefAt w R (rdS k s).2 → w.heap[X]? = some (.cells C 37 (0, 0)) → C[i]? = some (.int .i64 x) → (s.e = 0 → x = (rdS k s).1) →
      (∀ w', RefAt w' R (stepV k d s).2 → Fm (fun i => i = R) w w' → K w') →
      br (decide (d < 0)) (callV Try.prog 35 [.pointer (some ⟨R, 0, none⟩), .bool true] w fun _ w' => K w')
        (rd (w.cell? ⟨X, i, none⟩) fun v => isK .i64 v fun a => br (decide (a ≤ d)) (rd (w.cell? ⟨X, i, none⟩) fun v => isK .i64 v fun b => callV Try.prog 35 [.pointer (some ⟨R, 0, none⟩), .bool (decide (IntKind.i64.wrap (0 - d) ≤ b))] w fun _ w' => K w')
          (callV Try.prog 35 [.pointer (some ⟨R, 0, none⟩), .bool false] w fun _ w' => K w')) := by
    intro w s i C x K hr hC hi hx kk
    have hst : (stepV k d s).2 = rdF (decide (d < 0) || (decide (IntKind.i64.wrap (0 - d) ≤ (rdS k s).1) && decide ((rdS k s).1 ≤ d))) (rdS k s).2 := rfl
    have go : ∀ ok : Bool, ((rdS k s).2.e = 0 → ok = (decide (d < 0) || (decide (IntKind.i64.wrap (0 - d) ≤ (rdS k s).1) && decide ((rdS k s).1 ≤ d)))) → callV Try.prog 35 [.pointer (some ⟨R, 0, none⟩), .bool ok] w fun _ w' => K w' := by
      intro ok hok
      refine (must35_c hok hr).mono ?_
      rintro _ w' ⟨-, h1, h2⟩
      exact kk w' (by rw [hst]; exact h1) h2
    refine br_dec (fun hd => go true fun _ => by rw [decide_eq_true hd]; rfl) (fun hd => ?_)
    refine rd_of (v := .int .i64 x) (cellOf hC hi) ?_
    simp only [isB_i, isK_i, isP_i, isTup_i, isInt_i, isSl_i, isPtr_i, isCs_i, isStr_i, isFn_i, isIf_i, rd_i, br_t, br_f, orO_s, orO_n, gd_t, bv_add, bv_sub, bv_mul, bv_eql, bv_neq, bv_lss, bv_leq, bv_gtr, bv_geq, bv_quo, bv_rem, bv_shl, bv_shr, bv_seq, bv_sne, bv_ptr, bv_if, bv_map, bv_nf, bv_bool, bv_sl, bv_fn, uv_not, uv_neg, eqV, nilV, nc_ptr, nc_fn, nc_if, Option.map_some, toN, Nat.mul_one, implies_true, true_and, and_true, and_self]
    have hxe : (rdS k s).2.e = 0 → x = (rdS k s).1 := fun he => hx ((good_S k).back s he)
    refine br_dec (fun h1 => ?_) (fun h1 => go false fun he => ?_)
    · refine rd_of (v := .int .i64 x) (cellOf hC hi) ?_
      simp only [isB_i, isK_i, isP_i, isTup_i, isInt_i, isSl_i, isPtr_i, isCs_i, isStr_i, isFn_i, isIf_i, rd_i, br_t, br_f, orO_s, orO_n, gd_t, bv_add, bv_sub, bv_mul, bv_eql, bv_neq, bv_lss, bv_leq, bv_gtr, bv_geq, bv_quo, bv_rem, bv_shl, bv_shr, bv_seq, bv_sne, bv_ptr, bv_if, bv_map, bv_nf, bv_bool, bv_sl, bv_fn, uv_not, uv_neg, eqV, nilV, nc_ptr, nc_fn, nc_if, Option.map_some, toN, Nat.mul_one, implies_true, true_and, and_true, and_self]
      refine go _ fun he => ?_
      rw [← hxe he, decide_eq_false hd, decide_eq_true h1]; simp
    · rw [← hxe he, decide_eq_false hd, decide_eq_false h1]; simp
  have hRX : R ≠ X := by omega
  refine (signed56_c hk h4).mono ?_
  rintro _ w6 ⟨x, rfl, hix, hx, h6, hf6⟩
  simp only [isB_i, isK_i, isP_i, isTup_i, isInt_i, isSl_i, isPtr_i, isCs_i, isStr_i, isFn_i, isIf_i, rd_i, br_t, br_f, orO_s, orO_n, gd_t, bv_add, bv_sub, bv_mul, bv_eql, bv_neq, bv_lss, bv_leq, bv_gtr, bv_geq, bv_quo, bv_rem, bv_shl, bv_shr, bv_seq, bv_sne, bv_ptr, bv_if, bv_map, bv_nf, bv_bool, bv_sl, bv_fn, uv_not, uv_neg, eqV, nilV, nc_ptr, nc_fn, nc_if, Option.map_some, toN, Nat.mul_one, implies_true, true_and, and_true, and_self]
  have hb6 := hf6.keep hb4 (by omega)
  refine stC_one hb6 (by simp) rfl fun w8 hb8 hf8 => ?_
  have h8 := h6.keep hf8 hRX
  have hF8 : Fm (fun i => i = R) w w8 := (hF4.trans hf6).trans' hf8 (by rintro i hi rfl; omega)
  have hA8 := hf8.keep (hf6.keep hA4 (by omega)) (by omega)
  refine ⟨fun _ w' => RefAt w' R (stepV k d s).2 ∧ Fm (fun i => i = R) w8 w', must h8 hb8 rfl hx fun w' h1 h2 => ⟨h1, h2⟩, ?_⟩
  rintro - w22 ⟨h22, hf22⟩
  have hb22 := hf22.keep hb8 (by omega)
  have hA22 := hf22.keep hA8 (by omega)
  refine (signed56_c hk h22).mono ?_
  rintro _ w25 ⟨y, rfl, hiy, hy, h25, hf25⟩
  simp only [isB_i, isK_i, isP_i, isTup_i, isInt_i, isSl_i, isPtr_i, isCs_i, isStr_i, isFn_i, isIf_i, rd_i, br_t, br_f, orO_s, orO_n, gd_t, bv_add, bv_sub, bv_mul, bv_eql, bv_neq, bv_lss, bv_leq, bv_gtr, bv_geq, bv_quo, bv_rem, bv_shl, bv_shr, bv_seq, bv_sne, bv_ptr, bv_if, bv_map, bv_nf, bv_bool, bv_sl, bv_fn, uv_not, uv_neg, eqV, nilV, nc_ptr, nc_fn, nc_if, Option.map_some, toN, Nat.mul_one, implies_true, true_and, and_true, and_self]
  have hb25 := hf25.keep hb22 (by omega)
  refine stC_one hb25 (by simp) rfl fun w27 hb27 hf27 => ?_
  have h27 := h25.keep hf27 hRX
  have hA27 := hf27.keep (hf25.keep hA22 (by omega)) (by omega)
  have hF27 : Fm (fun i => i = R) w w27 := ((hF8.trans hf22).trans hf25).trans' hf27 (by rintro i hi rfl; omega)
  refine ⟨fun _ w' => RefAt w' R (stepV k d (stepV k d s).2).2 ∧ Fm (fun i => i = R) w27 w', must h27 hb27 rfl hy fun w' h1 h2 => ⟨h1, h2⟩, ?_⟩
  rintro - w41 ⟨h41, hf41⟩
  have hb41 := hf41.keep hb27 (by omega)
  have hA41 := hf41.keep hA27 (by omega)
  refine (signed56_c hk h41).mono ?_
  rintro _ w44 ⟨z, rfl, hiz, hz, h44, hf44⟩
  simp only [isB_i, isK_i, isP_i, isTup_i, isInt_i, isSl_i, isPtr_i, isCs_i, isStr_i, isFn_i, isIf_i, rd_i, br_t, br_f, orO_s, orO_n, gd_t, bv_add, bv_sub, bv_mul, bv_eql, bv_neq, bv_lss, bv_leq, bv_gtr, bv_geq, bv_quo, bv_rem, bv_shl, bv_shr, bv_seq, bv_sne, bv_ptr, bv_if, bv_map, bv_nf, bv_bool, bv_sl, bv_fn, uv_not, uv_neg, eqV, nilV, nc_ptr, nc_fn, nc_if, Option.map_some, toN, Nat.mul_one, implies_true, true_and, and_true, and_self]
  have hb44 := hf44.keep hb41 (by omega)
  refine stC_one hb44 (by simp) rfl fun w46 hb46 hf46 => ?_
  have h46 := h44.keep hf46 hRX
  have hA46 := hf46.keep (hf44.keep hA41 (by omega)) (by omega)
  have hF46 : Fm (fun i => i = R) w w46 := ((hF27.trans hf41).trans hf44).trans' hf46 (by rintro i hi rfl; omega)
  refine ⟨fun _ w' => RefAt w' R (stepV k d (stepV k d (stepV k d s).2).2).2 ∧ Fm (fun i => i = R) w46 w', must h46 hb46 rfl hz fun w' h1 h2 => ⟨h1, h2⟩, ?_⟩
  rintro - w60 ⟨h60, hf60⟩
  have hb60 := hf60.keep hb46 (by omega)
  have hA60 := hf60.keep hA46 (by omega)
  refine rd_of (v := ([.int .i64 x, .int .i64 y, .int .i64 z] : List Value)) (cells_all hb60 rfl) ?_
  refine rd_of (v := ()) rfl ?_
  refine stC_all hA60 rfl (by intro v hv; simp at hv; rcases hv with rfl | rfl | rfl <;> rfl) fun w63 hb63 hf63 => ?_
  refine rd_of (v := ([.int .i64 x, .int .i64 y, .int .i64 z] : List Value)) (cells_all hb63 rfl) ?_
  exact ⟨x, y, z, rfl, hx, hy, hz, h60.keep hf63 (by omega), (hF46.trans hf60).trans' hf63 (by rintro i hi rfl; omega)⟩
end Go.Proofs.Ytfekkdmnboccfaa
