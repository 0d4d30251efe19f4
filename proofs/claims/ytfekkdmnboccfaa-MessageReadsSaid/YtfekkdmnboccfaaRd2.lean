/- bits, message: what a reader does, step by step.  Conditions: the reader lies as it is said to lie; what is written to lies elsewhere. -/
import Derived.Test.YtfekkdmnboccfaaRd
namespace Go.Proofs.Ytfekkdmnboccfaa
set_option linter.unusedSimpArgs false
set_option linter.unusedVariables false
open Go Go.RowKit VC
variable {w : World} {base A R : Nat} {rem : List Int} {g : Option Nat}
theorem stC_mono {w : World} {a : Addr} {vs : List Value} {K K' : World → Prop} (h : stC w a vs K) (k : ∀ w', K w' → K' w') : stC w a vs K' := ⟨h.1, fun w' e => k w' (h.2 w' e)⟩
theorem or_bit {n b : Int} (h0 : 0 ≤ n) (h1 : n < 9223372036854775808) (hb : Bit b) : orI .u64 (IntKind.u64.wrap (n * 2)) b = 2 * n + b := by
  obtain ⟨m, rfl⟩ : ∃ m : Nat, n = m := ⟨n.toNat, by omega⟩
  have e1 : IntKind.u64.wrap ((m : Int) * 2) = ((2 * m : Nat) : Int) := by simp only [IntKind.wrap, IntKind.bits, IntKind.signed]; simp; omega
  have e2 : ∀ x : Nat, x < 18446744073709551616 → (BitVec.ofInt IntKind.u64.bits (x : Int)).toNat = x := by
    intro x hx
    rw [BitVec.toNat_ofInt]
    simp only [IntKind.bits]
    omega
  have e3 : ∀ x : Nat, x < 18446744073709551616 → IntKind.u64.wrap (x : Int) = x := by
    intro x hx
    simp only [IntKind.wrap, IntKind.bits, IntKind.signed]; simp; omega
  rw [e1]
  unfold orI
  rw [BitVec.toNat_or, e2 _ (by omega)]
  rcases hb with rfl | rfl
  · rw [show (BitVec.ofInt IntKind.u64.bits 0).toNat = 0 from rfl, Nat.or_zero, e3 _ (by omega)]; omega
  · rw [show (BitVec.ofInt IntKind.u64.bits 1).toNat = 1 from rfl]
    have : 2 * m ||| 1 = 2 * m + 1 := (Nat.two_pow_add_eq_or_of_lt (i := 1) (b := 1) (by omega) m).symm
    rw [this, e3 _ (by omega)]; omega
set_option maxRecDepth 20000 in
theorem get89_c {k : Nat} (hk : k ≤ 64) (h : BrAt w base R rem g) :
    callV Try.prog 89 [.pointer (some ⟨R, 0, none⟩), .int .i64 k] w fun v w' => v = .tuple #[.int .u64 (getR k rem).1, .bool (getR k rem).2.2] ∧ BrAt w' base R (getR k rem).2.1 g ∧ Fm (fun i => i = R) w w' := by
  refine vc89 ⟨R, 0, none⟩ k w _ ?_
  refine vc39 _ w _ ?_
  rw [show max 0 (min (k : Int) 64) = k by omega]
  simp only [isB_i, isK_i, isP_i, isTup_i, isInt_i, isSl_i, isPtr_i, isCs_i, isStr_i, isFn_i, isIf_i, rd_i, br_t, br_f, orO_s, orO_n, gd_t, bv_add, bv_sub, bv_mul, bv_eql, bv_neq, bv_lss, bv_leq, bv_gtr, bv_geq, bv_quo, bv_rem, bv_shl, bv_shr, bv_seq, bv_sne, bv_ptr, bv_if, bv_map, bv_nf, bv_bool, bv_sl, bv_fn, uv_not, uv_neg, eqV, nilV, nc_ptr, nc_fn, nc_if, Option.map_some, toN, Nat.mul_one, implies_true, true_and, and_true, and_self]
  refine (left53_c h).mono ?_
  rintro _ w1 ⟨rfl, rfl⟩
  simp only [isB_i, isK_i, isP_i, isTup_i, isInt_i, isSl_i, isPtr_i, isCs_i, isStr_i, isFn_i, isIf_i, rd_i, br_t, br_f, orO_s, orO_n, gd_t, bv_add, bv_sub, bv_mul, bv_eql, bv_neq, bv_lss, bv_leq, bv_gtr, bv_geq, bv_quo, bv_rem, bv_shl, bv_shr, bv_seq, bv_sne, bv_ptr, bv_if, bv_map, bv_nf, bv_bool, bv_sl, bv_fn, uv_not, uv_neg, eqV, nilV, nc_ptr, nc_fn, nc_if, Option.map_some, toN, Nat.mul_one, implies_true, true_and, and_true, and_self]
  have hd := h.keep (Fm.drew w) id fun _ _ y => y
  obtain ⟨v, Y, n, h1, h2, h3, h4, h5, h5', h6, h7⟩ := hd
  have hrl : rem.length = 8 * Y.length - n := by rw [h5', List.length_drop, byteBits_length]
  refine br_dec (fun hs => ?_) (fun hs => ?_)
  · have hg : getR k rem = (0, [], false) := by unfold getR; rw [if_pos (by omega)]
    rw [hg]
    have h1d : w.drew.drew.heap[R]? = some (.cells #[v, .int .i64 n] 106 (0, 0)) := h1
    have hbr : BrAt w.drew.drew base R rem g := h.keep ((Fm.drew w).trans (Fm.drew _)) id fun _ _ y => y
    have hF : Fm (fun i => i = R) w w.drew.drew := ((Fm.drew w).trans (Fm.drew _)).none
    have fin : ∀ w18 : World, w18.heap[R]? = some (.cells #[v, .int .i64 n] 106 (0, 0)) → Fm none' w w18 → stC w18 ⟨R, 1, none⟩ [.int .i64 (IntKind.i64.wrap ((n : Int) + rem.length))] fun w26 => w26.heap.size = w26.heap.size ∧ BrAt w26 base R [] g ∧ Fm (fun i => i = R) w w26 := by
      intro w18 h18 hf18
      refine stC_one h18 (by simp) rfl fun w26 hb26 hf26 => ⟨rfl, ⟨v, Y, 8 * Y.length, ?_, ?_, h3, h4, Nat.le_refl _, ?_, h6, h7⟩, hf18.none.trans hf26⟩
      · rw [hb26, w64 (by omega), show ((n : Int) + (rem.length : Int)) = ((8 * Y.length : Nat) : Int) by omega]
        rfl
      · have h2' : w18.ownsRow base 5 1 v Y.length (Y.map (Value.int .u8)) := by
          refine hf18.owns ?_ fun _ _ y => y
          obtain ⟨a1, a2⟩ := h2
          exact ⟨a1, a2⟩
        exact hf26.owns h2' fun i hi e => h4 (by rw [← h3, hi, e])
      · rw [List.drop_of_length_le (by rw [byteBits_length]; omega)]
    refine ⟨fun w' => w'.heap[R]? = some (.cells #[v, .int .i64 n] 106 (0, 0)) ∨ True, .inr trivial, ?_⟩
    constructor
    · simp only [addr_add, Nat.zero_add]
      refine rd_of (v := .int .i64 n) (cellOf h1d rfl) ?_
      simp only [isB_i, isK_i, isP_i, isTup_i, isInt_i, isSl_i, isPtr_i, isCs_i, isStr_i, isFn_i, isIf_i, rd_i, br_t, br_f, orO_s, orO_n, gd_t, bv_add, bv_sub, bv_mul, bv_eql, bv_neq, bv_lss, bv_leq, bv_gtr, bv_geq, bv_quo, bv_rem, bv_shl, bv_shr, bv_seq, bv_sne, bv_ptr, bv_if, bv_map, bv_nf, bv_bool, bv_sl, bv_fn, uv_not, uv_neg, eqV, nilV, nc_ptr, nc_fn, nc_if, Option.map_some, toN, Nat.mul_one, implies_true, true_and, and_true, and_self]
      refine ⟨.inr trivial, ?_⟩
      refine (left53_c hbr).mono ?_
      rintro _ w2 ⟨rfl, rfl⟩
      simp only [isB_i, isK_i, isP_i, isTup_i, isInt_i, isSl_i, isPtr_i, isCs_i, isStr_i, isFn_i, isIf_i, rd_i, br_t, br_f, orO_s, orO_n, gd_t, bv_add, bv_sub, bv_mul, bv_eql, bv_neq, bv_lss, bv_leq, bv_gtr, bv_geq, bv_quo, bv_rem, bv_shl, bv_shr, bv_seq, bv_sne, bv_ptr, bv_if, bv_map, bv_nf, bv_bool, bv_sl, bv_fn, uv_not, uv_neg, eqV, nilV, nc_ptr, nc_fn, nc_if, Option.map_some, toN, Nat.mul_one, implies_true, true_and, and_true, and_self]
      refine ⟨.inr trivial, ?_⟩
      refine (stC_mono (fin w.drew.drew.drew h1d (((Fm.drew w).trans (Fm.drew _)).trans (Fm.drew _))) ?_)
      rintro w26 ⟨_, a, b⟩
      exact ⟨.inr trivial, a, b⟩
    · refine (left53_c hbr).mono ?_
      rintro _ w2 ⟨rfl, rfl⟩
      simp only [isB_i, isK_i, isP_i, isTup_i, isInt_i, isSl_i, isPtr_i, isCs_i, isStr_i, isFn_i, isIf_i, rd_i, br_t, br_f, orO_s, orO_n, gd_t, bv_add, bv_sub, bv_mul, bv_eql, bv_neq, bv_lss, bv_leq, bv_gtr, bv_geq, bv_quo, bv_rem, bv_shl, bv_shr, bv_seq, bv_sne, bv_ptr, bv_if, bv_map, bv_nf, bv_bool, bv_sl, bv_fn, uv_not, uv_neg, eqV, nilV, nc_ptr, nc_fn, nc_if, Option.map_some, toN, Nat.mul_one, implies_true, true_and, and_true, and_self, addr_add, Nat.zero_add]
      refine ⟨.inr trivial, rd_of (v := .int .i64 n) (cellOf (w := w.drew.drew.drew) h1d rfl) ?_⟩
      simp only [isB_i, isK_i, isP_i, isTup_i, isInt_i, isSl_i, isPtr_i, isCs_i, isStr_i, isFn_i, isIf_i, rd_i, br_t, br_f, orO_s, orO_n, gd_t, bv_add, bv_sub, bv_mul, bv_eql, bv_neq, bv_lss, bv_leq, bv_gtr, bv_geq, bv_quo, bv_rem, bv_shl, bv_shr, bv_seq, bv_sne, bv_ptr, bv_if, bv_map, bv_nf, bv_bool, bv_sl, bv_fn, uv_not, uv_neg, eqV, nilV, nc_ptr, nc_fn, nc_if, Option.map_some, toN, Nat.mul_one, implies_true, true_and, and_true, and_self]
      refine ⟨.inr trivial, ?_⟩
      refine (stC_mono (fin w.drew.drew.drew h1d (((Fm.drew w).trans (Fm.drew _)).trans (Fm.drew _))) ?_)
      rintro w26 ⟨_, a, b⟩
      exact ⟨.inr trivial, a, b⟩
  · have hg : getR k rem = (val (rem.take k), rem.drop k, true) := by unfold getR; rw [if_neg (by omega)]
    rw [hg]
    have hbits := h.bits
    refine ⟨fun u w' => ∃ j : Nat, j ≤ k ∧ u 4 = .int .u64 (val (rem.take j)) ∧ u 22 = .int .i64 j ∧ w'.heap[R]? = some (.cells #[v, .int .i64 ((n + j : Nat) : Int)] 106 (0, 0)) ∧ Fm (fun i => i = R) w w', fun u _ => k - (intOf (u 22)).toNat, ⟨0, by omega, rfl, rfl, h1, (Fm.drew w).none⟩, ?_⟩
    rintro u w42 ⟨j, hj, h4', h22, hR, hF⟩
    change u 4 = .int .u64 _ at h4'
    change u 22 = .int .i64 j at h22
    have hown : w42.ownsRow base 5 1 v Y.length (Y.map (Value.int .u8)) := (hF.owns (v := v) (w := w) (by obtain ⟨a1, a2⟩ := h2; exact ⟨a1, a2⟩) fun i hi e => h4 (by rw [← h3, hi, e]))
    simp only [h4', h22, isB_i, isK_i, isP_i, isTup_i, isInt_i, isSl_i, isPtr_i, isCs_i, isStr_i, isFn_i, isIf_i, rd_i, br_t, br_f, orO_s, orO_n, gd_t, bv_add, bv_sub, bv_mul, bv_eql, bv_neq, bv_lss, bv_leq, bv_gtr, bv_geq, bv_quo, bv_rem, bv_shl, bv_shr, bv_seq, bv_sne, bv_ptr, bv_if, bv_map, bv_nf, bv_bool, bv_sl, bv_fn, uv_not, uv_neg, eqV, nilV, nc_ptr, nc_fn, nc_if, Option.map_some, toN, Nat.mul_one, implies_true, true_and, and_true, and_self]
    refine br_dec (fun hjk => ?_) (fun hjk => ?_)
    · obtain ⟨b, hb⟩ : ∃ b, rem[j]? = some b := ⟨rem[j]'(by omega), by simp⟩
      have hb' : (byteBits Y)[n + j]? = some b := by rw [h5', List.getElem?_drop] at hb; exact hb
      simp only [addr_add, Nat.zero_add]
      refine rd_of (v := .int .i64 ((n + j : Nat) : Int)) (cellOf hR rfl) ?_
      simp only [isB_i, isK_i, isP_i, isTup_i, isInt_i, isSl_i, isPtr_i, isCs_i, isStr_i, isFn_i, isIf_i, rd_i, br_t, br_f, orO_s, orO_n, gd_t, bv_add, bv_sub, bv_mul, bv_eql, bv_neq, bv_lss, bv_leq, bv_gtr, bv_geq, bv_quo, bv_rem, bv_shl, bv_shr, bv_seq, bv_sne, bv_ptr, bv_if, bv_map, bv_nf, bv_bool, bv_sl, bv_fn, uv_not, uv_neg, eqV, nilV, nc_ptr, nc_fn, nc_if, Option.map_some, toN, Nat.mul_one, implies_true, true_and, and_true, and_self]
      refine (bit52_c hR hown h6 h7 hb').mono ?_
      rintro _ w50 ⟨rfl, rfl⟩
      simp only [isB_i, isK_i, isP_i, isTup_i, isInt_i, isSl_i, isPtr_i, isCs_i, isStr_i, isFn_i, isIf_i, rd_i, br_t, br_f, orO_s, orO_n, gd_t, bv_add, bv_sub, bv_mul, bv_eql, bv_neq, bv_lss, bv_leq, bv_gtr, bv_geq, bv_quo, bv_rem, bv_shl, bv_shr, bv_seq, bv_sne, bv_ptr, bv_if, bv_map, bv_nf, bv_bool, bv_sl, bv_fn, uv_not, uv_neg, eqV, nilV, nc_ptr, nc_fn, nc_if, Option.map_some, toN, Nat.mul_one, implies_true, true_and, and_true, and_self]
      refine rd_of (v := .int .i64 ((n + j : Nat) : Int)) (cellOf hR rfl) ?_
      simp only [isB_i, isK_i, isP_i, isTup_i, isInt_i, isSl_i, isPtr_i, isCs_i, isStr_i, isFn_i, isIf_i, rd_i, br_t, br_f, orO_s, orO_n, gd_t, bv_add, bv_sub, bv_mul, bv_eql, bv_neq, bv_lss, bv_leq, bv_gtr, bv_geq, bv_quo, bv_rem, bv_shl, bv_shr, bv_seq, bv_sne, bv_ptr, bv_if, bv_map, bv_nf, bv_bool, bv_sl, bv_fn, uv_not, uv_neg, eqV, nilV, nc_ptr, nc_fn, nc_if, Option.map_some, toN, Nat.mul_one, implies_true, true_and, and_true, and_self]
      refine stC_one hR (by simp) rfl fun w54 hR54 hf54 => ?_
      have hv := val_lt j (rem.take j) (by rw [List.length_take]; omega) fun x hx => hbits x (List.mem_of_mem_take hx)
      have hp : (2 : Int) ^ j ≤ 2 ^ 63 := by exact_mod_cast (Nat.pow_le_pow_right (n := 2) (by omega) (show j ≤ 63 by omega))
      rw [w64 (n := (j : Int) + 1) (by omega)]
      rw [w64 (by omega)] at hR54
      refine ⟨⟨j + 1, by omega, ?_, rfl, ?_, hF.trans hf54⟩, ?_⟩
      · show Value.int .u64 _ = _
        rw [or_bit hv.1 (by omega) (hbits b (List.mem_of_getElem? hb)), List.take_add_one, hb, Option.toList_some, val_snoc]
      · rw [hR54]
        simp only [List.setIfInBounds_toArray, List.set_cons_succ, List.set_cons_zero]
        congr 5
      · show k - ((j : Int) + 1).toNat < k - (j : Int).toNat; omega
    · have : j = k := by omega
      subst this
      refine ⟨rfl, ⟨v, Y, n + j, hR, hown, h3, h4, by omega, ?_, h6, h7⟩, hF⟩
      rw [h5', List.drop_drop]
/-- A number with a sign, of k bits. -/
def sgn (k : Nat) (n : Int) : Int := (IntKind.i64.wrap (IntKind.u64.wrap (n * 2 ^ (64 - k)))).fdiv (2 ^ (64 - k))
theorem sign88_c {k : Nat} (hk : k ≤ 64) (h : BrAt w base R rem g) :
    callV Try.prog 88 [.pointer (some ⟨R, 0, none⟩), .int .i64 k] w fun v w' => v = .tuple #[.int .i64 (sgn k (getR k rem).1), .bool (getR k rem).2.2] ∧ BrAt w' base R (getR k rem).2.1 g ∧ Fm (fun i => i = R) w w' := by
  refine vc88 ⟨R, 0, none⟩ k w _ ?_
  refine (get89_c hk h).mono ?_
  rintro _ w1 ⟨rfl, h1, hf1⟩
  simp only [isB_i, isK_i, isP_i, isTup_i, isInt_i, isSl_i, isPtr_i, isCs_i, isStr_i, isFn_i, isIf_i, rd_i, br_t, br_f, orO_s, orO_n, gd_t, bv_add, bv_sub, bv_mul, bv_eql, bv_neq, bv_lss, bv_leq, bv_gtr, bv_geq, bv_quo, bv_rem, bv_shl, bv_shr, bv_seq, bv_sne, bv_ptr, bv_if, bv_map, bv_nf, bv_bool, bv_sl, bv_fn, uv_not, uv_neg, eqV, nilV, nc_ptr, nc_fn, nc_if, Option.map_some, toN, Nat.mul_one, implies_true, true_and, and_true, and_self, List.getElem?_cons_zero, List.getElem?_cons_succ]
  refine vc39 _ w1 _ ?_
  rw [show max 0 (min (k : Int) 64) = k by omega]
  simp only [isB_i, isK_i, isP_i, isTup_i, isInt_i, isSl_i, isPtr_i, isCs_i, isStr_i, isFn_i, isIf_i, rd_i, br_t, br_f, orO_s, orO_n, gd_t, bv_add, bv_sub, bv_mul, bv_eql, bv_neq, bv_lss, bv_leq, bv_gtr, bv_geq, bv_quo, bv_rem, bv_shl, bv_shr, bv_seq, bv_sne, bv_ptr, bv_if, bv_map, bv_nf, bv_bool, bv_sl, bv_fn, uv_not, uv_neg, eqV, nilV, nc_ptr, nc_fn, nc_if, Option.map_some, toN, Nat.mul_one, implies_true, true_and, and_true, and_self]
  rw [w64 (by omega), show ((64 : Int) - (k : Int)) = ((64 - k : Nat) : Int) by omega]
  simp only [isB_i, isK_i, isP_i, isTup_i, isInt_i, isSl_i, isPtr_i, isCs_i, isStr_i, isFn_i, isIf_i, rd_i, br_t, br_f, orO_s, orO_n, gd_t, bv_add, bv_sub, bv_mul, bv_eql, bv_neq, bv_lss, bv_leq, bv_gtr, bv_geq, bv_quo, bv_rem, bv_shl, bv_shr, bv_seq, bv_sne, bv_ptr, bv_if, bv_map, bv_nf, bv_bool, bv_sl, bv_fn, uv_not, uv_neg, eqV, nilV, nc_ptr, nc_fn, nc_if, Option.map_some, toN, Nat.mul_one, implies_true, true_and, and_true, and_self]
  refine ⟨?_, h1, hf1⟩
  rw [show min (64 - k) IntKind.u64.bits = 64 - k from Nat.min_eq_left (by have : IntKind.u64.bits = 64 := rfl; omega), show min (64 - k) IntKind.i64.bits = 64 - k from Nat.min_eq_left (by have : IntKind.i64.bits = 64 := rfl; omega)]
  rfl
/-- What a message.reader has: bits that remain, and what was wrong. -/
structure RS where
  rem : List Int
  e : Int
def failE (e : Int) (ok : Bool) (n : Int) : Int := if ok = false ∧ e = 0 then n else e
def rdW (k : Nat) (s : RS) : Int × RS := ((getR k s.rem).1, ⟨(getR k s.rem).2.1, failE s.e (getR k s.rem).2.2 2⟩)
def rdS (k : Nat) (s : RS) : Int × RS := (sgn k (getR k s.rem).1, ⟨(getR k s.rem).2.1, failE s.e (getR k s.rem).2.2 2⟩)
def rdF (ok : Bool) (s : RS) : RS := ⟨s.rem, failE s.e ok 3⟩
def RdAt (w : World) (base A R : Nat) (s : RS) (g : Option Nat) : Prop :=
  w.heap[A]? = some (.cells #[.pointer (some ⟨R, 0, none⟩), .int .i64 s.e] 69 (0, 0)) ∧ A ≠ R ∧ g ≠ some A ∧ BrAt w base R s.rem g
theorem RdAt.keep {w w' : World} {base A R : Nat} {s : RS} {g : Option Nat} {S : Nat → Prop} (h : RdAt w base A R s g) (f : Fm S w w') (hA : ¬ S A) (hR : ¬ S R) (hg : ∀ i, g = some i → ¬ S i) : RdAt w' base A R s g :=
  ⟨f.keep h.1 hA, h.2.1, h.2.2.1, h.2.2.2.keep f hR hg⟩
theorem RdAt.lt {s : RS} (h : RdAt w base A R s g) : A < w.heap.size ∧ R < w.heap.size ∧ (∀ i, g = some i → i < w.heap.size) := ⟨lt_of_blk h.1, h.2.2.2.lt.1, h.2.2.2.lt.2⟩
variable {s : RS}
theorem fail51_c (ok : Bool) (n : Int) (h : RdAt w base A R s g) : callV Try.prog 51 [.pointer (some ⟨A, 0, none⟩), .bool ok, .int .i64 n] w fun v w' => v = .tuple #[] ∧ RdAt w' base A R ⟨s.rem, failE s.e ok n⟩ g ∧ Fm (fun i => i = A) w w' := by
  refine vc51 ⟨A, 0, none⟩ ok n w _ ?_
  obtain ⟨h1, h2, h3, h4⟩ := h
  cases ok with
  | true =>
    show _ ∧ _
    refine ⟨rfl, ⟨?_, h2, h3, h4⟩, Fm.refl _ _⟩
    simp only [failE, Bool.true_eq_false, false_and, if_false]; exact h1
  | false =>
    simp only [isB_i, isK_i, isP_i, isTup_i, isInt_i, isSl_i, isPtr_i, isCs_i, isStr_i, isFn_i, isIf_i, rd_i, br_t, br_f, orO_s, orO_n, gd_t, bv_add, bv_sub, bv_mul, bv_eql, bv_neq, bv_lss, bv_leq, bv_gtr, bv_geq, bv_quo, bv_rem, bv_shl, bv_shr, bv_seq, bv_sne, bv_ptr, bv_if, bv_map, bv_nf, bv_bool, bv_sl, bv_fn, uv_not, uv_neg, eqV, nilV, nc_ptr, nc_fn, nc_if, Option.map_some, toN, Nat.mul_one, implies_true, true_and, and_true, and_self, Bool.not_false, addr_add, Nat.zero_add]
    refine rd_of (v := .int .i64 s.e) (cellOf h1 rfl) ?_
    simp only [isB_i, isK_i, isP_i, isTup_i, isInt_i, isSl_i, isPtr_i, isCs_i, isStr_i, isFn_i, isIf_i, rd_i, br_t, br_f, orO_s, orO_n, gd_t, bv_add, bv_sub, bv_mul, bv_eql, bv_neq, bv_lss, bv_leq, bv_gtr, bv_geq, bv_quo, bv_rem, bv_shl, bv_shr, bv_seq, bv_sne, bv_ptr, bv_if, bv_map, bv_nf, bv_bool, bv_sl, bv_fn, uv_not, uv_neg, eqV, nilV, nc_ptr, nc_fn, nc_if, Option.map_some, toN, Nat.mul_one, implies_true, true_and, and_true, and_self]
    refine br_dec (fun he => ?_) (fun he => ?_)
    · refine stC_one h1 (by simp) rfl fun w2 hA hf => ⟨⟨?_, h2, h3, h4.keep hf (fun e => h2 e.symm) fun i hi e => h3 (by rw [hi, e])⟩, hf⟩
      simp only [failE, he, and_self, if_true]; exact hA
    · refine ⟨⟨?_, h2, h3, h4⟩, Fm.refl _ _⟩
      simp only [failE, he, and_false, if_false]; exact h1
theorem within31_c (ok : Bool) (h : RdAt w base A R s g) : callV Try.prog 31 [.pointer (some ⟨A, 0, none⟩), .bool ok] w fun v w' => v = .tuple #[] ∧ RdAt w' base A R (rdF ok s) g ∧ Fm (fun i => i = A) w w' := by
  refine vc31 ⟨A, 0, none⟩ ok w _ ?_
  refine (fail51_c ok 3 h).mono ?_
  rintro _ w1 ⟨rfl, h1, hf⟩
  exact ⟨rfl, h1, hf⟩
/-- A step of a reader that lays cells C at B. -/
def RdP (base A R B tB : Nat) (g : Option Nat) (w : World) (s : RS) (C : Array Value) (v : Value) (w' : World) : Prop :=
  v = .tuple #[] ∧ RdAt w' base A R s g ∧ w'.heap[B]? = some (.cells C tB (0, 0)) ∧ Fm (fun i => i = A ∨ i = R ∨ i = B) w w'
theorem whole87_c {B i tB k : Nat} {C : Array Value} (hk : k ≤ 64) (h : RdAt w base A R s g) (hB : w.heap[B]? = some (.cells C tB (0, 0))) (hi : i < C.size) (hBA : B ≠ A) (hBR : B ≠ R) (hBg : g ≠ some B) :
    callV Try.prog 87 [.pointer (some ⟨A, 0, none⟩), .pointer (some ⟨B, i, none⟩), .int .i64 k] w (RdP base A R B tB g w (rdW k s).2 (C.setIfInBounds i (.int .u64 (rdW k s).1))) := by
  obtain ⟨h1, h2, h3, h4⟩ := h
  refine vc87 ⟨A, 0, none⟩ ⟨B, i, none⟩ k w _ (rd_of (v := .pointer (some ⟨R, 0, none⟩)) (cellOf h1 rfl) ?_)
  simp only [isB_i, isK_i, isP_i, isTup_i, isInt_i, isSl_i, isPtr_i, isCs_i, isStr_i, isFn_i, isIf_i, rd_i, br_t, br_f, orO_s, orO_n, gd_t, bv_add, bv_sub, bv_mul, bv_eql, bv_neq, bv_lss, bv_leq, bv_gtr, bv_geq, bv_quo, bv_rem, bv_shl, bv_shr, bv_seq, bv_sne, bv_ptr, bv_if, bv_map, bv_nf, bv_bool, bv_sl, bv_fn, uv_not, uv_neg, eqV, nilV, nc_ptr, nc_fn, nc_if, Option.map_some, toN, Nat.mul_one, implies_true, true_and, and_true, and_self]
  refine (get89_c hk h4).mono ?_
  rintro _ w3 ⟨rfl, h5, hf3⟩
  simp only [isB_i, isK_i, isP_i, isTup_i, isInt_i, isSl_i, isPtr_i, isCs_i, isStr_i, isFn_i, isIf_i, rd_i, br_t, br_f, orO_s, orO_n, gd_t, bv_add, bv_sub, bv_mul, bv_eql, bv_neq, bv_lss, bv_leq, bv_gtr, bv_geq, bv_quo, bv_rem, bv_shl, bv_shr, bv_seq, bv_sne, bv_ptr, bv_if, bv_map, bv_nf, bv_bool, bv_sl, bv_fn, uv_not, uv_neg, eqV, nilV, nc_ptr, nc_fn, nc_if, Option.map_some, toN, Nat.mul_one, implies_true, true_and, and_true, and_self, List.getElem?_cons_zero, List.getElem?_cons_succ]
  refine (fail51_c _ 2 (s := ⟨(getR k s.rem).2.1, s.e⟩) ⟨hf3.keep h1 h2, h2, h3, h5⟩).mono ?_
  rintro _ w11 ⟨rfl, h6, hf11⟩
  have hB11 := hf11.keep (hf3.keep hB hBR) hBA
  refine stC_one hB11 hi rfl fun w12 hB12 hf12 => ⟨rfl, h6.keep hf12 (fun e => hBA e.symm) (fun e => hBR e.symm) (fun j hj e => hBg (by rw [hj, e])), hB12, ?_⟩
  exact ((hf3.mono fun i _ e => .inr (.inl e)).trans (hf11.mono fun i _ e => .inl e)).trans (hf12.mono fun i _ e => .inr (.inr e))
theorem signed86_c {B i tB k : Nat} {C : Array Value} (hk : k ≤ 64) (h : RdAt w base A R s g) (hB : w.heap[B]? = some (.cells C tB (0, 0))) (hi : i < C.size) (hBA : B ≠ A) (hBR : B ≠ R) (hBg : g ≠ some B) :
    callV Try.prog 86 [.pointer (some ⟨A, 0, none⟩), .pointer (some ⟨B, i, none⟩), .int .i64 k] w (RdP base A R B tB g w (rdS k s).2 (C.setIfInBounds i (.int .i64 (rdS k s).1))) := by
  obtain ⟨h1, h2, h3, h4⟩ := h
  refine vc86 ⟨A, 0, none⟩ ⟨B, i, none⟩ k w _ (rd_of (v := .pointer (some ⟨R, 0, none⟩)) (cellOf h1 rfl) ?_)
  simp only [isB_i, isK_i, isP_i, isTup_i, isInt_i, isSl_i, isPtr_i, isCs_i, isStr_i, isFn_i, isIf_i, rd_i, br_t, br_f, orO_s, orO_n, gd_t, bv_add, bv_sub, bv_mul, bv_eql, bv_neq, bv_lss, bv_leq, bv_gtr, bv_geq, bv_quo, bv_rem, bv_shl, bv_shr, bv_seq, bv_sne, bv_ptr, bv_if, bv_map, bv_nf, bv_bool, bv_sl, bv_fn, uv_not, uv_neg, eqV, nilV, nc_ptr, nc_fn, nc_if, Option.map_some, toN, Nat.mul_one, implies_true, true_and, and_true, and_self]
  refine (sign88_c hk h4).mono ?_
  rintro _ w3 ⟨rfl, h5, hf3⟩
  simp only [isB_i, isK_i, isP_i, isTup_i, isInt_i, isSl_i, isPtr_i, isCs_i, isStr_i, isFn_i, isIf_i, rd_i, br_t, br_f, orO_s, orO_n, gd_t, bv_add, bv_sub, bv_mul, bv_eql, bv_neq, bv_lss, bv_leq, bv_gtr, bv_geq, bv_quo, bv_rem, bv_shl, bv_shr, bv_seq, bv_sne, bv_ptr, bv_if, bv_map, bv_nf, bv_bool, bv_sl, bv_fn, uv_not, uv_neg, eqV, nilV, nc_ptr, nc_fn, nc_if, Option.map_some, toN, Nat.mul_one, implies_true, true_and, and_true, and_self, List.getElem?_cons_zero, List.getElem?_cons_succ]
  refine (fail51_c _ 2 (s := ⟨(getR k s.rem).2.1, s.e⟩) ⟨hf3.keep h1 h2, h2, h3, h5⟩).mono ?_
  rintro _ w11 ⟨rfl, h6, hf11⟩
  have hB11 := hf11.keep (hf3.keep hB hBR) hBA
  refine stC_one hB11 hi rfl fun w12 hB12 hf12 => ⟨rfl, h6.keep hf12 (fun e => hBA e.symm) (fun e => hBR e.symm) (fun j hj e => hBg (by rw [hj, e])), hB12, ?_⟩
  exact ((hf3.mono fun i _ e => .inr (.inl e)).trans (hf11.mono fun i _ e => .inl e)).trans (hf12.mono fun i _ e => .inr (.inr e))
end Go.Proofs.Ytfekkdmnboccfaa
