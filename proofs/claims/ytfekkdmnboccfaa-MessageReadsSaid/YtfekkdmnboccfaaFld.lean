/- message: a writer's bytes and command.  Conditions: the writer lies as it is said to lie; the fields are cells of other blocks. -/
import Derived.Test.YtfekkdmnboccfaaVec
namespace Go.Proofs.Ytfekkdmnboccfaa
set_option linter.unusedSimpArgs false
set_option linter.unusedVariables false
open Go Go.RowKit VC
variable {w : World} {base A : Nat} {T : TypeId} {wr : Bool} {bs : List Int} {g : Option Nat}
def byteBits (ys : List Int) : List Int := ys.flatMap fun y => bitsOf (IntKind.u64.wrap y) 8
theorem byteBits_length (ys : List Int) : (byteBits ys).length = 8 * ys.length := by
  induction ys with
  | nil => rfl
  | cons y ys ih => simp only [byteBits, List.flatMap_cons, List.length_append] at ih ⊢; rw [ih, bitsOf_length, List.length_cons]; omega
set_option maxHeartbeats 1000000 in
set_option maxRecDepth 20000 in
theorem bytes80_c {B i tB cp k : Nat} {C : Array Value} {p : Option Addr} {ys : List Int} (hk : k ≤ 64) (h : WrAt w base A T (.bool wr) bs g) (hB : w.heap[B]? = some (.cells C tB (0, 0))) (hi : C[i]? = some (.slice p ys.length cp)) (hBA : B ≠ A) (hBg : g ≠ some B)
    (hy : ∀ j y, ys[j]? = some y → ∃ ad, p = some ad ∧ ad.block ≠ A ∧ g ≠ some ad.block ∧ w.cell? (ad.add j) = some (.int .u8 y)) (hlen : bs.length + k + 8 * ys.length ≤ 1125899906842000) :
    callV Try.prog 80 [.pointer (some ⟨A, 0, none⟩), .pointer (some ⟨B, i, none⟩), .int .i64 k] w (WrP base A T wr bs g w (bitsOf (IntKind.u64.wrap ys.length) k ++ byteBits ys) (!decide ((IntKind.u64.wrap (ys.length : Int)).fdiv (2 ^ (min k 64)) = 0))) := by
  have hl := h.lt
  have hBl := lt_of_blk hB
  refine vc80 ⟨A, 0, none⟩ ⟨B, i, none⟩ k w _ (rd_of (v := .slice p ys.length cp) (cellOf hB hi) ?_)
  simp only [isB_i, isK_i, isP_i, isTup_i, isInt_i, isSl_i, isPtr_i, isCs_i, isStr_i, isFn_i, isIf_i, rd_i, br_t, br_f, orO_s, orO_n, gd_t, bv_add, bv_sub, bv_mul, bv_eql, bv_neq, bv_lss, bv_leq, bv_gtr, bv_geq, bv_quo, bv_rem, bv_shl, bv_shr, bv_seq, bv_sne, bv_ptr, bv_if, bv_map, bv_nf, bv_bool, bv_sl, bv_fn, uv_not, uv_neg, eqV, nilV, nc_ptr, nc_fn, nc_if, Option.map_some, toN, Nat.mul_one, implies_true, true_and, and_true, and_self]
  refine allocC_of fun w5 hb5 hs5 hf5 => ?_
  refine stC_one hb5 (by simp) rfl fun w6 hb6 hf6 => ?_
  have hF6 : Fm none' w w6 := hf5.trans' hf6 (by rintro i hi rfl; omega)
  have hw6 := h.keep hF6 id fun _ _ y => y
  have hs6 : w.heap.size < w6.heap.size := lt_of_blk hb6
  refine (whole82_c hk hw6 (cellOf hb6 rfl) (by show w.heap.size ≠ A; omega) (by intro e; have := hl.2 _ e; exact absurd this (Nat.lt_irrefl _)) (by omega)).mono ?_
  rintro _ w8 ⟨rfl, g1, hw1, hg1, hf1⟩
  have hF8 : Fm (fun i => i = A ∨ g = some i) w w8 := hF6.none.trans hf1
  have hg1w : g1 = g ∨ ∃ b, g1 = some b ∧ w.heap.size ≤ b := grow_trans hF6.size (.inl rfl) hg1
  refine rd_of (v := .slice p ys.length cp) (cellOf (hF8.keep hB (by rintro (e | e); exact hBA e; exact hBg e)) hi) ?_
  simp only [isB_i, isK_i, isP_i, isTup_i, isInt_i, isSl_i, isPtr_i, isCs_i, isStr_i, isFn_i, isIf_i, rd_i, br_t, br_f, orO_s, orO_n, gd_t, bv_add, bv_sub, bv_mul, bv_eql, bv_neq, bv_lss, bv_leq, bv_gtr, bv_geq, bv_quo, bv_rem, bv_shl, bv_shr, bv_seq, bv_sne, bv_ptr, bv_if, bv_map, bv_nf, bv_bool, bv_sl, bv_fn, uv_not, uv_neg, eqV, nilV, nc_ptr, nc_fn, nc_if, Option.map_some, toN, Nat.mul_one, implies_true, true_and, and_true, and_self]
  refine ⟨fun u w' => ∃ (j : Nat) (g' : Option Nat), j ≤ ys.length ∧ u 21 = .int .i64 j ∧ WrAt w' base A T (.bool (wr || !decide ((IntKind.u64.wrap (ys.length : Int)).fdiv (2 ^ (min k 64)) = 0))) (bs ++ (bitsOf (IntKind.u64.wrap ys.length) k ++ byteBits (ys.take j))) g' ∧ (g' = g ∨ ∃ b, g' = some b ∧ w.heap.size ≤ b) ∧ Fm (fun i => i = A ∨ g = some i) w w', fun u _ => ys.length - (intOf (u 21)).toNat, ?_, ?_⟩
  · refine ⟨0, g1, by omega, rfl, ?_, hg1w, hF8⟩
    simp only [List.take_zero, byteBits, List.flatMap_nil, List.append_nil]
    exact hw1
  rintro u w16 ⟨j, g', hj, h21, hw, hg', hF⟩
  change u 21 = .int .i64 j at h21
  simp only [h21, isB_i, isK_i, isP_i, isTup_i, isInt_i, isSl_i, isPtr_i, isCs_i, isStr_i, isFn_i, isIf_i, rd_i, br_t, br_f, orO_s, orO_n, gd_t, bv_add, bv_sub, bv_mul, bv_eql, bv_neq, bv_lss, bv_leq, bv_gtr, bv_geq, bv_quo, bv_rem, bv_shl, bv_shr, bv_seq, bv_sne, bv_ptr, bv_if, bv_map, bv_nf, bv_bool, bv_sl, bv_fn, uv_not, uv_neg, eqV, nilV, nc_ptr, nc_fn, nc_if, Option.map_some, toN, Nat.mul_one, implies_true, true_and, and_true, and_self]
  refine br_dec (fun hjn => ?_) (fun hjn => ?_)
  · obtain ⟨y, hyj⟩ : ∃ y, ys[j]? = some y := ⟨ys[j]'(by omega), by simp⟩
    obtain ⟨ad, rfl, hadA, hadg, hc⟩ := hy j y hyj
    have hblk : (ad.add j).block = ad.block := by unfold Addr.add; split <;> rfl
    simp only [isB_i, isK_i, isP_i, isTup_i, isInt_i, isSl_i, isPtr_i, isCs_i, isStr_i, isFn_i, isIf_i, rd_i, br_t, br_f, orO_s, orO_n, gd_t, bv_add, bv_sub, bv_mul, bv_eql, bv_neq, bv_lss, bv_leq, bv_gtr, bv_geq, bv_quo, bv_rem, bv_shl, bv_shr, bv_seq, bv_sne, bv_ptr, bv_if, bv_map, bv_nf, bv_bool, bv_sl, bv_fn, uv_not, uv_neg, eqV, nilV, nc_ptr, nc_fn, nc_if, Option.map_some, toN, Nat.mul_one, implies_true, true_and, and_true, and_self]
    refine ⟨by omega, rd_of (hF.cell hc (by rw [hblk]; rintro (e | e); exact hadA e; exact hadg e)) ?_⟩
    simp only [isB_i, isK_i, isP_i, isTup_i, isInt_i, isSl_i, isPtr_i, isCs_i, isStr_i, isFn_i, isIf_i, rd_i, br_t, br_f, orO_s, orO_n, gd_t, bv_add, bv_sub, bv_mul, bv_eql, bv_neq, bv_lss, bv_leq, bv_gtr, bv_geq, bv_quo, bv_rem, bv_shl, bv_shr, bv_seq, bv_sne, bv_ptr, bv_if, bv_map, bv_nf, bv_bool, bv_sl, bv_fn, uv_not, uv_neg, eqV, nilV, nc_ptr, nc_fn, nc_if, Option.map_some, toN, Nat.mul_one, implies_true, true_and, and_true, and_self]
    refine (put21_c (IntKind.u64.wrap y) 8 (by omega) hw (by simp only [List.length_append, bitsOf_length, byteBits_length, List.length_take]; omega)).mono ?_
    rintro _ w26 ⟨rfl, g2, hw2, hg2, hf2⟩
    rw [w64 (by have := hlen; omega)]
    refine ⟨⟨j + 1, g2, by omega, rfl, ?_, grow_trans hF.size hg' hg2, fm_trans hF hg' hf2⟩, ?_⟩
    · rw [List.take_add_one, hyj]
      have e1 : byteBits (ys.take j ++ [y]) = byteBits (ys.take j) ++ bitsOf (IntKind.u64.wrap y) 8 := by simp [byteBits]
      simp only [Option.toList_some]
      rw [e1]
      simp only [List.append_assoc] at hw2 ⊢
      exact hw2
    · show ys.length - ((j : Int) + 1).toNat < ys.length - (j : Int).toNat; omega
  · rw [List.take_of_length_le (by omega)] at hw
    exact ⟨rfl, g', hw, hg', hF⟩
/-- What a writer writes of a command. -/
def sgnBits (x : Int) (k : Nat) : List Int := bitsOf (IntKind.u64.wrap x) k
def sgnBad (x : Int) (k : Nat) : Bool := !decide ((IntKind.i64.wrap (x * 2 ^ (64 - k))).fdiv (2 ^ (64 - k)) = x)
def numBits (x : Int) (k : Nat) : List Int := bitsOf (IntKind.u64.wrap x) k
def numBad (x : Int) (k : Nat) : Bool := !decide ((IntKind.u64.wrap x).fdiv (2 ^ (min k 64)) = 0)
def cmdBits (q b dx dy t : Int) : List Int := numBits q 16 ++ (numBits b 2 ++ ((sgnBits dx 8 ++ sgnBits dy 8) ++ numBits (IntKind.i64.wrap (t - 1)) 3))
def cmdBad (q b dx dy t : Int) : Bool := numBad q 16 || (numBad b 2 || ((sgnBad dx 8 || sgnBad dy 8) || numBad (IntKind.i64.wrap (t - 1)) 3))
set_option maxHeartbeats 2000000 in
set_option maxRecDepth 20000 in
theorem command40_c {B i tB : Nat} {C : Array Value} {q b dx dy t : Int} (h : WrAt w base A T (.bool wr) bs g) (hB : w.heap[B]? = some (.cells C tB (0, 0)))
    (h0 : C[i]? = some (.int .u16 q)) (h1 : C[i + 1]? = some (.int .u8 b)) (h2 : C[i + 2]? = some (.int .i8 dx)) (h3 : C[i + 3]? = some (.int .i8 dy)) (h4 : C[i + 4]? = some (.int .i64 t)) (hBA : B ≠ A) (hBg : g ≠ some B)
    (w0 : IntKind.u16.wrap (IntKind.u64.wrap q) = q) (w1 : IntKind.u8.wrap (IntKind.u64.wrap b) = b) (w2 : -128 ≤ dx ∧ dx < 128) (w3 : -128 ≤ dy ∧ dy < 128) (w4 : IntKind.i64.wrap (IntKind.i64.wrap (t - 1) + 1) = t) (w5 : IntKind.i64.wrap (IntKind.u64.wrap (IntKind.i64.wrap (t - 1))) = IntKind.i64.wrap (t - 1)) (hlen : bs.length + 37 ≤ 1125899906842000) :
    callV Try.prog 40 [wv A, .pointer (some ⟨B, i, none⟩)] w (WrP base A T wr bs g w (cmdBits q b dx dy t) (cmdBad q b dx dy t)) := by
  have hBl := lt_of_blk hB
  refine vc40 _ ⟨B, i, none⟩ w _ ?_
  refine (num41_c (k := 16) (by omega) h hB h0 hBA hBg w0 (by omega)).mono ?_
  rintro _ wa ⟨rfl, ga, hwa, hga, hfa⟩
  have hBa := hfa.keep hB (by rintro (e | e); exact hBA e; exact hBg e)
  have hBga := apart_of hBl hBg hga
  simp only [addr_add]
  refine (num60_c (k := 2) (by omega) hwa hBa h1 hBA hBga w1 (by rw [List.length_append, bitsOf_length]; omega)).mono ?_
  rintro _ wb ⟨rfl, gb, hwb, hgb, hfb⟩
  have hBb := hfb.keep hBa (by rintro (e | e); exact hBA e; exact hBga e)
  have hgbw := grow_trans hfa.size hga hgb
  have hFb := fm_trans hfa hga hfb
  have hBgb := apart_of hBl hBg hgbw
  rw [List.append_assoc, Bool.or_assoc] at hwb
  refine ⟨fun _ => True, trivial, ?_⟩
  simp only [isB_i, isK_i, isP_i, isTup_i, isInt_i, isSl_i, isPtr_i, isCs_i, isStr_i, isFn_i, isIf_i, rd_i, br_t, br_f, orO_s, orO_n, gd_t, bv_add, bv_sub, bv_mul, bv_eql, bv_neq, bv_lss, bv_leq, bv_gtr, bv_geq, bv_quo, bv_rem, bv_shl, bv_shr, bv_seq, bv_sne, bv_ptr, bv_if, bv_map, bv_nf, bv_bool, bv_sl, bv_fn, uv_not, uv_neg, eqV, nilV, nc_ptr, nc_fn, nc_if, Option.map_some, toN, Nat.mul_one, implies_true, true_and, and_true, and_self, addr_add]
  refine build_2 (by rw [row121]) row120 rfl rfl rfl fun wc hbc hsc hfc => ?_
  have hFc' : Fm none' wb wc := (Fm.drew wb).trans hfc
  have hFc : Fm (fun i => i = A ∨ g = some i) w wc := hFb.trans hFc'.none
  have hwc := hwb.keep hFc' id fun _ _ y => y
  have hlc := hwb.lt
  simp only [isB_i, isK_i, isP_i, isTup_i, isInt_i, isSl_i, isPtr_i, isCs_i, isStr_i, isFn_i, isIf_i, rd_i, br_t, br_f, orO_s, orO_n, gd_t, bv_add, bv_sub, bv_mul, bv_eql, bv_neq, bv_lss, bv_leq, bv_gtr, bv_geq, bv_quo, bv_rem, bv_shl, bv_shr, bv_seq, bv_sne, bv_ptr, bv_if, bv_map, bv_nf, bv_bool, bv_sl, bv_fn, uv_not, uv_neg, eqV, nilV, nc_ptr, nc_fn, nc_if, Option.map_some, toN, Nat.mul_one, implies_true, true_and, and_true, and_self]
  obtain ⟨S, hS⟩ : ∃ S, S = wb.heap.size := ⟨_, rfl⟩
  have hbc : wc.heap[S]? = some (.cells #[.pointer (some ⟨B, i + 2, none⟩), .pointer (some ⟨B, i + 3, none⟩)] 120 (0, 0)) := by rw [hS]; exact hbc
  obtain ⟨xs, hxs⟩ : ∃ xs : List Int, xs = [dx, dy] := ⟨_, rfl⟩
  have hxl : xs.length = 2 := by rw [hxs]; rfl
  have hcell : ∀ j, j < 2 → ∀ x, xs[j]? = some x → C[i + 2 + j]? = some (.int .i8 x) ∧ -128 ≤ x ∧ x < 128 := by
    intro j hj x hx
    rw [hxs] at hx
    match j, hj with
    | 0, _ => simp at hx; subst hx; exact ⟨h2, w2⟩
    | 1, _ => simp at hx; subst hx; exact ⟨h3, w3⟩
  have hgbS : gb ≠ some S := fun e => by have := hlc.2 _ e; omega
  refine ⟨fun u w' => ∃ (j : Nat) (g' : Option Nat), j ≤ 2 ∧ u 26 = .int .i64 j ∧ WrAt w' base A T (.bool (wr || (numBad q 16 || (numBad b 2 || (xs.take j).any fun x => sgnBad x 8)))) (bs ++ (numBits q 16 ++ (numBits b 2 ++ (xs.take j).flatMap fun x => sgnBits x 8))) g' ∧ (g' = g ∨ ∃ b, g' = some b ∧ w.heap.size ≤ b) ∧ g' ≠ some S ∧ Fm (fun i => i = A ∨ g = some i) w w' ∧
    w'.heap[S]? = some (.cells #[.pointer (some ⟨B, i + 2, none⟩), .pointer (some ⟨B, i + 3, none⟩)] 120 (0, 0)), fun u _ => 2 - (intOf (u 26)).toNat, ?_, ?_⟩
  · refine ⟨0, gb, by omega, rfl, ?_, hgbw, hgbS, hFc, hbc⟩
    simp only [List.take_zero, List.any_nil, List.flatMap_nil, List.append_nil, Bool.or_false]
    exact hwc
  rintro u w29 ⟨j, g', hj, h26, hw, hg', hgS, hF, hbS⟩
  change u 26 = .int .i64 j at h26
  simp only [h26, isB_i, isK_i, isP_i, isTup_i, isInt_i, isSl_i, isPtr_i, isCs_i, isStr_i, isFn_i, isIf_i, rd_i, br_t, br_f, orO_s, orO_n, gd_t, bv_add, bv_sub, bv_mul, bv_eql, bv_neq, bv_lss, bv_leq, bv_gtr, bv_geq, bv_quo, bv_rem, bv_shl, bv_shr, bv_seq, bv_sne, bv_ptr, bv_if, bv_map, bv_nf, bv_bool, bv_sl, bv_fn, uv_not, uv_neg, eqV, nilV, nc_ptr, nc_fn, nc_if, Option.map_some, toN, Nat.mul_one, implies_true, true_and, and_true, and_self]
  have hBg' := apart_of hBl hBg hg'
  have hB29 := hF.keep hB (by rintro (e | e); exact hBA e; exact hBg e)
  have hl29 := hw.lt
  have hSl := lt_of_blk hbS
  have hB29l := lt_of_blk hB29
  have hfl : ∀ l : List Int, (l.flatMap fun x => sgnBits x 8).length = 8 * l.length := by
    intro l
    induction l with
    | nil => rfl
    | cons y l ih => rw [List.flatMap_cons, List.length_append, ih, sgnBits, bitsOf_length, List.length_cons]; omega
  refine br_dec (fun hj2 => ?_) (fun hj2 => ?_)
  · obtain ⟨x, hx⟩ : ∃ x, xs[j]? = some x := ⟨xs[j]'(by omega), by simp⟩
    obtain ⟨hcx, hxr⟩ := hcell j (by omega) x hx
    refine ⟨by omega, ?_⟩
    have hptr : w29.cell? ⟨S, j, none⟩ = some (.pointer (some ⟨B, i + 2 + j, none⟩)) := by
      match j, (show j < 2 by omega) with
      | 0, _ => exact cellOf hbS rfl
      | 1, _ => exact cellOf hbS rfl
    rw [show wb.drew.heap.size = S from hS.symm]
    simp only [addr_add, Nat.zero_add]
    refine rd_of hptr ?_
    simp only [isB_i, isK_i, isP_i, isTup_i, isInt_i, isSl_i, isPtr_i, isCs_i, isStr_i, isFn_i, isIf_i, rd_i, br_t, br_f, orO_s, orO_n, gd_t, bv_add, bv_sub, bv_mul, bv_eql, bv_neq, bv_lss, bv_leq, bv_gtr, bv_geq, bv_quo, bv_rem, bv_shl, bv_shr, bv_seq, bv_sne, bv_ptr, bv_if, bv_map, bv_nf, bv_bool, bv_sl, bv_fn, uv_not, uv_neg, eqV, nilV, nc_ptr, nc_fn, nc_if, Option.map_some, toN, Nat.mul_one, implies_true, true_and, and_true, and_self]
    refine rd_of (v := .int .i8 x) (cellOf hB29 hcx) ?_
    simp only [isB_i, isK_i, isP_i, isTup_i, isInt_i, isSl_i, isPtr_i, isCs_i, isStr_i, isFn_i, isIf_i, rd_i, br_t, br_f, orO_s, orO_n, gd_t, bv_add, bv_sub, bv_mul, bv_eql, bv_neq, bv_lss, bv_leq, bv_gtr, bv_geq, bv_quo, bv_rem, bv_shl, bv_shr, bv_seq, bv_sne, bv_ptr, bv_if, bv_map, bv_nf, bv_bool, bv_sl, bv_fn, uv_not, uv_neg, eqV, nilV, nc_ptr, nc_fn, nc_if, Option.map_some, toN, Nat.mul_one, implies_true, true_and, and_true, and_self]
    refine allocC_of fun w43 hb43 hs43 hf43 => ?_
    rw [w64 (by omega)]
    refine stC_one hb43 (by simp) rfl fun w44 hb44 hf44 => ?_
    have hF44 : Fm none' w29 w44 := hf43.trans' hf44 (by rintro i hi rfl; omega)
    have hw44 := hw.keep hF44 id fun _ _ y => y
    have hBs : w29.heap.size ≠ A := by omega
    refine meth_signed ?_
    refine (signed81_c (k := 8) (n := x) (by omega) hw44 (cellOf hb44 rfl) hBs (fun e => by have := hl29.2 _ e; exact absurd this (Nat.lt_irrefl _)) (by rw [List.length_append, List.length_append, List.length_append, hfl, numBits, numBits, bitsOf_length, bitsOf_length, List.length_take]; omega)).mono ?_
    rintro _ w50 ⟨rfl, g5, hw5, hg5, hf5⟩
    have hb5 := hf5.keep hb44 (by rintro (e | e); exact hBs e; have := hl29.2 _ e; omega)
    refine rd_of (v := .int .i64 x) (cellOf hb5 rfl) ?_
    simp only [isB_i, isK_i, isP_i, isTup_i, isInt_i, isSl_i, isPtr_i, isCs_i, isStr_i, isFn_i, isIf_i, rd_i, br_t, br_f, orO_s, orO_n, gd_t, bv_add, bv_sub, bv_mul, bv_eql, bv_neq, bv_lss, bv_leq, bv_gtr, bv_geq, bv_quo, bv_rem, bv_shl, bv_shr, bv_seq, bv_sne, bv_ptr, bv_if, bv_map, bv_nf, bv_bool, bv_sl, bv_fn, uv_not, uv_neg, eqV, nilV, nc_ptr, nc_fn, nc_if, Option.map_some, toN, Nat.mul_one, implies_true, true_and, and_true, and_self]
    have hi8 : IntKind.i8.wrap x = x := by simp only [IntKind.wrap, IntKind.bits, IntKind.signed]; simp; split <;> omega
    rw [hi8]
    have hB5 := hf5.keep (hF44.keep hB29 id) (by rintro (e | e); exact hBA e; exact hBg' e)
    have hg5w : g5 = g ∨ ∃ b, g5 = some b ∧ w.heap.size ≤ b := grow_trans (Nat.le_trans hF.size hF44.size) hg' hg5
    refine stC_one hB5 (Array.getElem?_eq_some_iff.1 hcx).1 rfl fun w55 hB55 hf55 => ?_
    rw [set_same hcx] at hB55
    have hF55 : Fm (fun i => i = A ∨ g = some i) w w55 := by
      refine Fm.unturn (B := B) (((fm_trans (hF.trans hF44.none) hg' hf5).mono fun i _ e => .inl e).trans (hf55.mono fun i _ e => .inr e)) (hB55.trans hB.symm)
    have hg5S : g5 ≠ some S := apart_of (n := w44.heap.size) (by have := hF44.size; omega) hgS hg5
    have hBg5 := apart_of hBl hBg hg5w
    rw [w64 (n := (j : Int) + 1) (by omega)]
    refine ⟨⟨j + 1, g5, by omega, ?_, ?_, hg5w, hg5S, hF55, hf55.keep (hf5.keep (hF44.keep hbS id) (by rintro (e | e); omega; exact hgS e)) ?_⟩, ?_⟩
    · rfl
    · rw [List.take_add_one, hx]
      have e1 : ((xs.take j ++ [x]).flatMap fun x => sgnBits x 8) = ((xs.take j).flatMap fun x => sgnBits x 8) ++ bitsOf (IntKind.u64.wrap x) 8 := by simp [sgnBits]
      have e2 : (wr || (numBad q 16 || (numBad b 2 || (xs.take j ++ [x]).any fun x => sgnBad x 8))) = ((wr || (numBad q 16 || (numBad b 2 || (xs.take j).any fun x => sgnBad x 8))) || !decide ((IntKind.i64.wrap (x * 2 ^ (64 - 8))).fdiv (2 ^ (64 - 8)) = x)) := by
        simp only [List.any_append, List.any_cons, List.any_nil, Bool.or_false, sgnBad, Bool.or_assoc]
      simp only [Option.toList_some]
      rw [e1, e2]
      have hw5' := hw5.keep hf55 (fun e => hBA e.symm) (fun k hk e => hBg5 (by rw [hk, e]))
      simp only [List.append_assoc] at hw5' ⊢
      exact hw5'
    · intro e
      have := hFb.size
      omega
    · show 2 - ((j : Int) + 1).toNat < 2 - (j : Int).toNat; omega
  · have : j = 2 := by omega
    subst this
    rw [List.take_of_length_le (by omega)] at hw
    refine rd_of (v := .int .i64 t) (cellOf hB29 h4) ?_
    simp only [isB_i, isK_i, isP_i, isTup_i, isInt_i, isSl_i, isPtr_i, isCs_i, isStr_i, isFn_i, isIf_i, rd_i, br_t, br_f, orO_s, orO_n, gd_t, bv_add, bv_sub, bv_mul, bv_eql, bv_neq, bv_lss, bv_leq, bv_gtr, bv_geq, bv_quo, bv_rem, bv_shl, bv_shr, bv_seq, bv_sne, bv_ptr, bv_if, bv_map, bv_nf, bv_bool, bv_sl, bv_fn, uv_not, uv_neg, eqV, nilV, nc_ptr, nc_fn, nc_if, Option.map_some, toN, Nat.mul_one, implies_true, true_and, and_true, and_self]
    refine allocC_of fun w61 hb61 hs61 hf61 => ?_
    refine stC_one hb61 (by simp) rfl fun w62 hb62 hf62 => ?_
    have hF62 : Fm none' w29 w62 := hf61.trans' hf62 (by rintro i hi rfl; omega)
    have hw62 := hw.keep hF62 id fun _ _ y => y
    have hBs : w29.heap.size ≠ A := by omega
    refine (num30_c (k := 3) (by omega) hw62 hb62 rfl hBs (fun e => by have := hl29.2 _ e; omega) w5 (by rw [List.length_append, List.length_append, List.length_append, hfl, numBits, numBits, bitsOf_length, bitsOf_length]; omega)).mono ?_
    rintro _ w64' ⟨rfl, g5, hw5, hg5, hf5⟩
    have hb5 := hf5.keep hb62 (by rintro (e | e); exact hBs e; have := hl29.2 _ e; omega)
    refine rd_of (v := .int .i64 (IntKind.i64.wrap (t - 1))) (cellOf hb5 rfl) ?_
    simp only [isB_i, isK_i, isP_i, isTup_i, isInt_i, isSl_i, isPtr_i, isCs_i, isStr_i, isFn_i, isIf_i, rd_i, br_t, br_f, orO_s, orO_n, gd_t, bv_add, bv_sub, bv_mul, bv_eql, bv_neq, bv_lss, bv_leq, bv_gtr, bv_geq, bv_quo, bv_rem, bv_shl, bv_shr, bv_seq, bv_sne, bv_ptr, bv_if, bv_map, bv_nf, bv_bool, bv_sl, bv_fn, uv_not, uv_neg, eqV, nilV, nc_ptr, nc_fn, nc_if, Option.map_some, toN, Nat.mul_one, implies_true, true_and, and_true, and_self, w4]
    have hB5 := hf5.keep (hF62.keep hB29 id) (by rintro (e | e); exact hBA e; exact hBg' e)
    refine stC_one hB5 (Array.getElem?_eq_some_iff.1 h4).1 rfl fun w67 hB67 hf67 => ?_
    rw [set_same h4] at hB67
    have hg5w : g5 = g ∨ ∃ b, g5 = some b ∧ w.heap.size ≤ b := grow_trans (Nat.le_trans hF.size hF62.size) hg' hg5
    have hBg5 := apart_of hBl hBg hg5w
    have hF67 : Fm (fun i => i = A ∨ g = some i) w w67 := by
      refine Fm.unturn (B := B) (((fm_trans (hF.trans hF62.none) hg' hf5).mono fun i _ e => .inl e).trans (hf67.mono fun i _ e => .inr e)) (hB67.trans hB.symm)
    refine ⟨rfl, g5, ?_, hg5w, hF67⟩
    have hw5' := hw5.keep hf67 (fun e => hBA e.symm) (fun k hk e => hBg5 (by rw [hk, e]))
    rw [hxs] at hw5'
    simp only [List.flatMap_cons, List.flatMap_nil, List.append_nil, List.any_cons, List.any_nil, Bool.or_false, List.append_assoc, Bool.or_assoc] at hw5'
    unfold cmdBits cmdBad
    simp only [List.append_assoc, Bool.or_assoc]
    exact hw5'
end Go.Proofs.Ytfekkdmnboccfaa
