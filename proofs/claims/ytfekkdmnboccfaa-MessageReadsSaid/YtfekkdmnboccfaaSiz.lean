/- message's law 10: a message has as many bits as its kind.  Conditions: the message may be read. -/
import Derived.Test.YtfekkdmnboccfaaUnl
namespace Go.Proofs.Ytfekkdmnboccfaa
set_option linter.unusedSimpArgs false
set_option linter.unusedVariables false
open Go Go.RowKit VC
def tbl (n : Int) : List Int := [0, 0, 37, 71, 0, 31, 208, 47, 20, n]
theorem tbl_get {m : Msg} (h : known m = true) : ∃ k : Nat, m.kind = k ∧ k < 10 ∧ (tbl (74 + 8 * m.bytes.length))[k]? = some ((fieldBits m).length : Int) := by
  have hk := known_iff.1 h
  have hv : ∀ (l : List Int) (k : Nat), (vecB l k).length = l.length * k := by
    intro l k
    induction l with
    | nil => simp [vecB]
    | cons y l ih => simp only [vecB, List.flatMap_cons, List.length_append] at ih ⊢; rw [ih]; simp only [vecBits, bitsOf_length, List.length_cons, Nat.succ_mul]; omega
  refine ⟨m.kind.toNat, by omega, by omega, ?_⟩
  have hc : m.kind = 1 ∨ m.kind = 2 ∨ m.kind = 3 ∨ m.kind = 4 ∨ m.kind = 5 ∨ m.kind = 6 ∨ m.kind = 7 ∨ m.kind = 8 ∨ m.kind = 9 := by omega
  unfold fieldBits
  rcases hc with e | e | e | e | e | e | e | e | e <;> rw [e] <;>
    simp [tbl, cmdBits, numBits, sgnBits, bitsOf_length, hv, byteBits_length]
  omega
theorem first5 : ∀ y : Fin 256, (bitsOf (IntKind.u64.wrap (y.val : Int)) 8).take 5 = bitsOf 1 5 → (y.val : Int).fdiv 8 = 1 := by decide +kernel
theorem first_byte {bs : List Int} (hb : ∀ b ∈ bs, Bit b) (h : bs.take 5 = bitsOf 1 5) : ∃ y rest, pack bs = y :: rest ∧ y.fdiv 8 = 1 := by
  have hl : 5 ≤ bs.length := by
    have := congrArg List.length h
    rw [List.length_take, bitsOf_length] at this; omega
  have hp := byteBits_pack bs hb
  have hpl := pack_length bs
  cases hc : pack bs with
  | nil => rw [hc] at hpl; simp at hpl; omega
  | cons y rest =>
    refine ⟨y, rest, rfl, ?_⟩
    have hr := pack_range bs y (by rw [hc]; simp)
    obtain ⟨n, rfl⟩ : ∃ n : Nat, y = n := ⟨y.toNat, by omega⟩
    refine first5 ⟨n, by omega⟩ ?_
    rw [hc] at hp
    simp only [byteBits, List.flatMap_cons] at hp
    have h5 := congrArg (List.take 5) hp
    rw [List.take_append_of_le_length (by rw [bitsOf_length]; omega), List.take_append_of_le_length hl, h] at h5
    exact h5
variable {w : World}
theorem oneM {w : World} {m : Msg} {q : Option Addr} {cq g N : Nat} (h : w.heap[g]? = some (.cells (msgC m q cq).toArray 40 (0, 0))) (hb : BytesAt w q m.bytes) (hN : ∀ ad, q = some ad → m.bytes ≠ [] → ad.block < w.heap.size) : MsgsAt w w.heap.size (some ⟨g, 0, none⟩) [m] := by
  intro j x hj
  obtain rfl : j = 0 := by have := (List.getElem?_eq_some_iff.1 hj).1; simp at this; omega
  simp at hj; subst hj
  refine ⟨_, q, cq, rfl, lt_of_blk h, ?_, hb, hN⟩
  rw [Nat.zero_mul]
  exact cells_all h rfl
theorem BytesAt.lt {q : Option Addr} {ys : List Int} (h : BytesAt w q ys) : ∀ ad, q = some ad → ys ≠ [] → ad.block < w.heap.size := by
  intro ad e hne
  cases ys with
  | nil => exact absurd rfl hne
  | cons y l =>
    obtain ⟨ad', e', hc⟩ := h 0 y rfl
    rw [e] at e'; cases e'
    have := World.block_lt_of_cell? w _ hc
    rw [add_block] at this; exact this
set_option maxRecDepth 20000 in
set_option maxHeartbeats 1000000 in
theorem sizes_c {m : Msg} {q : Option Addr} {c : Nat} (hm : Mok m) (hlc : m.bytes.length ≤ c) (hby : BytesAt w q m.bytes) :
    callV Try.prog 10 [.agg (msgC m q c).toArray] w fun v w' => v = .bool true ∧ Fm none' w w' := by
  unfold msgC
  apply vc10
  refine allocC_of fun w1 hb1 hs1 hf1 => ?_
  change w1.heap[w.heap.size]? = some (.cells (msgC m q c).toArray 40 (0, 0)) at hb1
  obtain ⟨B, hB⟩ : ∃ B, B = w.heap.size := ⟨_, rfl⟩
  rw [← hB] at hb1 ⊢
  refine shown12_c.mono ?_
  rintro _ w3 ⟨rfl, hf3⟩
  simp only [isB_i, isK_i, isP_i, isTup_i, isInt_i, isSl_i, isPtr_i, isCs_i, isStr_i, isFn_i, isIf_i, rd_i, br_t, br_f, orO_s, orO_n, gd_t, bv_add, bv_sub, bv_mul, bv_eql, bv_neq, bv_lss, bv_leq, bv_gtr, bv_geq, bv_quo, bv_rem, bv_shl, bv_shr, bv_seq, bv_sne, bv_ptr, bv_if, bv_map, bv_nf, bv_bool, bv_sl, bv_fn, uv_not, uv_neg, eqV, nilV, nc_ptr, nc_fn, nc_if, Option.map_some, toN, Nat.mul_one, implies_true, true_and, and_true, and_self]
  have hb3 := hf3.keep hb1 id
  refine rd_of (v := .slice q m.bytes.length c) (cellOf hb3 rfl) ?_
  simp only [isB_i, isK_i, isP_i, isTup_i, isInt_i, isSl_i, isPtr_i, isCs_i, isStr_i, isFn_i, isIf_i, rd_i, br_t, br_f, orO_s, orO_n, gd_t, bv_add, bv_sub, bv_mul, bv_eql, bv_neq, bv_lss, bv_leq, bv_gtr, bv_geq, bv_quo, bv_rem, bv_shl, bv_shr, bv_seq, bv_sne, bv_ptr, bv_if, bv_map, bv_nf, bv_bool, bv_sl, bv_fn, uv_not, uv_neg, eqV, nilV, nc_ptr, nc_fn, nc_if, Option.map_some, toN, Nat.mul_one, implies_true, true_and, and_true, and_self]
  refine rd_of (v := .slice q m.bytes.length c) (cellOf hb3 rfl) ?_
  simp only [isB_i, isK_i, isP_i, isTup_i, isInt_i, isSl_i, isPtr_i, isCs_i, isStr_i, isFn_i, isIf_i, rd_i, br_t, br_f, orO_s, orO_n, gd_t, bv_add, bv_sub, bv_mul, bv_eql, bv_neq, bv_lss, bv_leq, bv_gtr, bv_geq, bv_quo, bv_rem, bv_shl, bv_shr, bv_seq, bv_sne, bv_ptr, bv_if, bv_map, bv_nf, bv_bool, bv_sl, bv_fn, uv_not, uv_neg, eqV, nilV, nc_ptr, nc_fn, nc_if, Option.map_some, toN, Nat.mul_one, implies_true, true_and, and_true, and_self]
  have hmin : min (m.bytes.length : Int) 900 = ((min m.bytes.length 900 : Nat) : Int) := by omega
  rw [hmin]
  refine sliceAt_hi (by rw [row25]) row5 (by omega) (by omega) ?_
  simp only [isB_i, isK_i, isP_i, isTup_i, isInt_i, isSl_i, isPtr_i, isCs_i, isStr_i, isFn_i, isIf_i, rd_i, br_t, br_f, orO_s, orO_n, gd_t, bv_add, bv_sub, bv_mul, bv_eql, bv_neq, bv_lss, bv_leq, bv_gtr, bv_geq, bv_quo, bv_rem, bv_shl, bv_shr, bv_seq, bv_sne, bv_ptr, bv_if, bv_map, bv_nf, bv_bool, bv_sl, bv_fn, uv_not, uv_neg, eqV, nilV, nc_ptr, nc_fn, nc_if, Option.map_some, toN, Nat.mul_one, implies_true, true_and, and_true, and_self]
  refine stC_one hb3 (by simp [msgC]) rfl fun w18 hb18 hf18 => ?_
  rw [show min m.bytes.length 900 = (m.bytes.take 900).length by rw [List.length_take]; omega] at hb18
  obtain ⟨q1, hq1⟩ : ∃ q1, q1 = (if c = 0 then q else q.map (·.add 0)) := ⟨_, rfl⟩
  rw [← hq1] at hb18
  change w18.heap[B]? = some (.cells (msgC (cut 900 m) q1 c).toArray 40 (0, 0)) at hb18
  obtain ⟨m', hm'⟩ : ∃ m', m' = cut 900 m := ⟨_, rfl⟩
  rw [← hm'] at hb18
  have hmok : Mok m' := by rw [hm']; exact mok_cut hm 900
  have hl9 : m'.bytes.length ≤ 900 := by rw [hm']; show (m.bytes.take 900).length ≤ 900; rw [List.length_take]; omega
  have hF18 : Fm none' w w18 := (hf1.trans hf3).trans' hf18 (by rintro i hi rfl; omega)
  have hby18 : BytesAt w18 q1 m'.bytes := by
    rw [hq1, hm']
    exact ((hby.keep hF18 fun _ _ => id).take 900).zero c
  refine rd_of (v := msgC m' q1 c) (cells_all hb18 rfl) ?_
  refine (right16_c hmok hby18 hby18.lt (by omega)).mono ?_
  rintro _ w21 ⟨rfl, hf21⟩
  simp only [isB_i, isK_i, isP_i, isTup_i, isInt_i, isSl_i, isPtr_i, isCs_i, isStr_i, isFn_i, isIf_i, rd_i, br_t, br_f, orO_s, orO_n, gd_t, bv_add, bv_sub, bv_mul, bv_eql, bv_neq, bv_lss, bv_leq, bv_gtr, bv_geq, bv_quo, bv_rem, bv_shl, bv_shr, bv_seq, bv_sne, bv_ptr, bv_if, bv_map, bv_nf, bv_bool, bv_sl, bv_fn, uv_not, uv_neg, eqV, nilV, nc_ptr, nc_fn, nc_if, Option.map_some, toN, Nat.mul_one, implies_true, true_and, and_true, and_self]
  have hF21 := hF18.trans hf21
  refine br_ndec' (fun hr => hF21) (fun hr => ?_)
  have hrok := rok_of hmok (by omega) hr
  have hb21 := hf21.keep hb18 id
  have hby21 := hby18.keep hf21 fun _ _ => id
  refine rd_of (v := .slice q1 m'.bytes.length c) (cellOf hb21 rfl) ?_
  simp only [isB_i, isK_i, isP_i, isTup_i, isInt_i, isSl_i, isPtr_i, isCs_i, isStr_i, isFn_i, isIf_i, rd_i, br_t, br_f, orO_s, orO_n, gd_t, bv_add, bv_sub, bv_mul, bv_eql, bv_neq, bv_lss, bv_leq, bv_gtr, bv_geq, bv_quo, bv_rem, bv_shl, bv_shr, bv_seq, bv_sne, bv_ptr, bv_if, bv_map, bv_nf, bv_bool, bv_sl, bv_fn, uv_not, uv_neg, eqV, nilV, nc_ptr, nc_fn, nc_if, Option.map_some, toN, Nat.mul_one, implies_true, true_and, and_true, and_self]
  have hx : IntKind.i64.wrap (74 + IntKind.i64.wrap (8 * (m'.bytes.length : Int))) = 74 + 8 * (m'.bytes.length : Int) := by
    rw [w64 (n := 8 * (m'.bytes.length : Int)) (by omega), w64 (by omega)]
  rw [hx]
  obtain ⟨k, hk, hk10, hget⟩ := tbl_get hrok.known
  refine build_L (xs := (tbl (74 + 8 * (m'.bytes.length : Int))).map (Value.int .i64)) (by rw [row52]) row3 rfl (by intro x hx; simp at hx; obtain ⟨a, _, rfl⟩ := hx; rfl) rfl (by omega) (by omega) rfl fun w28 hb28 hs28 hf28 => ?_
  simp only [isB_i, isK_i, isP_i, isTup_i, isInt_i, isSl_i, isPtr_i, isCs_i, isStr_i, isFn_i, isIf_i, rd_i, br_t, br_f, orO_s, orO_n, gd_t, bv_add, bv_sub, bv_mul, bv_eql, bv_neq, bv_lss, bv_leq, bv_gtr, bv_geq, bv_quo, bv_rem, bv_shl, bv_shr, bv_seq, bv_sne, bv_ptr, bv_if, bv_map, bv_nf, bv_bool, bv_sl, bv_fn, uv_not, uv_neg, eqV, nilV, nc_ptr, nc_fn, nc_if, Option.map_some, toN, Nat.mul_one, implies_true, true_and, and_true, and_self]
  have hbm := hf28.keep hb21 id
  refine rd_of (v := .int .i64 m'.kind) (cellOf hbm rfl) ?_
  simp only [isB_i, isK_i, isP_i, isTup_i, isInt_i, isSl_i, isPtr_i, isCs_i, isStr_i, isFn_i, isIf_i, rd_i, br_t, br_f, orO_s, orO_n, gd_t, bv_add, bv_sub, bv_mul, bv_eql, bv_neq, bv_lss, bv_leq, bv_gtr, bv_geq, bv_quo, bv_rem, bv_shl, bv_shr, bv_seq, bv_sne, bv_ptr, bv_if, bv_map, bv_nf, bv_bool, bv_sl, bv_fn, uv_not, uv_neg, eqV, nilV, nc_ptr, nc_fn, nc_if, Option.map_some, toN, Nat.mul_one, implies_true, true_and, and_true, and_self]
  rw [hk, toN, addr_add, Nat.zero_add]
  refine ⟨by omega, rd_of (v := .int .i64 ((fieldBits m').length : Int)) (cellOf hb28 (by rw [List.getElem?_toArray, List.getElem?_map, hget]; rfl)) ?_⟩
  simp only [isB_i, isK_i, isP_i, isTup_i, isInt_i, isSl_i, isPtr_i, isCs_i, isStr_i, isFn_i, isIf_i, rd_i, br_t, br_f, orO_s, orO_n, gd_t, bv_add, bv_sub, bv_mul, bv_eql, bv_neq, bv_lss, bv_leq, bv_gtr, bv_geq, bv_quo, bv_rem, bv_shl, bv_shr, bv_seq, bv_sne, bv_ptr, bv_if, bv_map, bv_nf, bv_bool, bv_sl, bv_fn, uv_not, uv_neg, eqV, nilV, nc_ptr, nc_fn, nc_if, Option.map_some, toN, Nat.mul_one, implies_true, true_and, and_true, and_self]
  refine rd_of (v := msgC m' q1 c) (cells_all hbm rfl) ?_
  refine build_S (cs := msgC m' q1 c) (by rw [row22]) row40 rfl (by omega) (by omega) rfl fun w39 hb39 hs39 hf39 => ?_
  simp only [isB_i, isK_i, isP_i, isTup_i, isInt_i, isSl_i, isPtr_i, isCs_i, isStr_i, isFn_i, isIf_i, rd_i, br_t, br_f, orO_s, orO_n, gd_t, bv_add, bv_sub, bv_mul, bv_eql, bv_neq, bv_lss, bv_leq, bv_gtr, bv_geq, bv_quo, bv_rem, bv_shl, bv_shr, bv_seq, bv_sne, bv_ptr, bv_if, bv_map, bv_nf, bv_bool, bv_sl, bv_fn, uv_not, uv_neg, eqV, nilV, nc_ptr, nc_fn, nc_if, Option.map_some, toN, Nat.mul_one, implies_true, true_and, and_true, and_self]
  have hby39 := hby21.keep (hf28.trans hf39) fun _ _ => id
  have hflen := fieldBits_len m'
  have hob : (encBits [m']).length = 9 + (fieldBits m').length := by
    unfold encBits oneBits
    simp only [List.flatMap_cons, List.flatMap_nil, List.append_nil, List.length_append, bitsOf_length]
    omega
  have hpl := pack_length (encBits [m'])
  have henc : encodeM [m'] = (pack (encBits [m']), 0) := by
    rw [enc_of (l := [m']) (by simpa using hrok), if_neg]
    rw [hpl, hob]
    simp only [List.length_cons, List.length_nil]
    omega
  refine (enc_run (ms := [m']) (oneM (N := 0) hb39 hby39 hby39.lt) ⟨by simpa using hmok, by intro x hx; simp at hx; subst hx; omega, by simp⟩).mono ?_
  rw [henc]
  rintro _ w44 ⟨e, ed, rfl, hbe, -, hf44⟩
  simp only [decide_true, isB_i, isK_i, isP_i, isTup_i, isInt_i, isSl_i, isPtr_i, isCs_i, isStr_i, isFn_i, isIf_i, rd_i, br_t, br_f, orO_s, orO_n, gd_t, bv_add, bv_sub, bv_mul, bv_eql, bv_neq, bv_lss, bv_leq, bv_gtr, bv_geq, bv_quo, bv_rem, bv_shl, bv_shr, bv_seq, bv_sne, bv_ptr, bv_if, bv_map, bv_nf, bv_bool, bv_sl, bv_fn, uv_not, uv_neg, eqV, nilV, nc_ptr, nc_fn, nc_if, Option.map_some, toN, Nat.mul_one, implies_true, true_and, and_true, and_self, List.getElem?_cons_zero, List.getElem?_cons_succ]
  have hF44 := ((hF21.trans hf28).trans hf39).trans hf44
  have hlen : IntKind.i64.wrap (Int.tdiv (IntKind.i64.wrap (IntKind.i64.wrap (9 + ((fieldBits m').length : Int)) + 7)) 8) = ((pack (encBits [m'])).length : Int) := by
    rw [w64 (n := 9 + ((fieldBits m').length : Int)) (by omega), w64 (n := 9 + ((fieldBits m').length : Int) + 7) (by omega)]
    rw [show (9 + ((fieldBits m').length : Int) + 7) = ((9 + (fieldBits m').length + 7 : Nat) : Int) by omega]
    rw [Int.tdiv_eq_ediv_of_nonneg (by omega), w64 (by omega)]
    omega
  refine br_dec (fun _ => ?_) (fun h => absurd hlen.symm h)
  obtain ⟨y, rest, hpk, hy⟩ := first_byte (encBits_bit [m']) (by
    unfold encBits
    rw [List.take_append_of_le_length (by rw [bitsOf_length]; omega), List.take_of_length_le (by rw [bitsOf_length]; omega)]
    rfl)
  rw [hpk] at hbe ⊢
  obtain ⟨ad, rfl, hc⟩ := hbe 0 y rfl
  simp only [isB_i, isK_i, isP_i, isTup_i, isInt_i, isSl_i, isPtr_i, isCs_i, isStr_i, isFn_i, isIf_i, rd_i, br_t, br_f, orO_s, orO_n, gd_t, bv_add, bv_sub, bv_mul, bv_eql, bv_neq, bv_lss, bv_leq, bv_gtr, bv_geq, bv_quo, bv_rem, bv_shl, bv_shr, bv_seq, bv_sne, bv_ptr, bv_if, bv_map, bv_nf, bv_bool, bv_sl, bv_fn, uv_not, uv_neg, eqV, nilV, nc_ptr, nc_fn, nc_if, Option.map_some, toN, Nat.mul_one, implies_true, true_and, and_true, and_self]
  refine ⟨by simp, rd_of (v := .int .u8 y) (by simpa [Addr.add] using hc) ?_⟩
  simp only [isB_i, isK_i, isP_i, isTup_i, isInt_i, isSl_i, isPtr_i, isCs_i, isStr_i, isFn_i, isIf_i, rd_i, br_t, br_f, orO_s, orO_n, gd_t, bv_add, bv_sub, bv_mul, bv_eql, bv_neq, bv_lss, bv_leq, bv_gtr, bv_geq, bv_quo, bv_rem, bv_shl, bv_shr, bv_seq, bv_sne, bv_ptr, bv_if, bv_map, bv_nf, bv_bool, bv_sl, bv_fn, uv_not, uv_neg, eqV, nilV, nc_ptr, nc_fn, nc_if, Option.map_some, toN, Nat.mul_one, implies_true, true_and, and_true, and_self]
  refine ⟨?_, hF44⟩
  rw [show y.fdiv 8 = 1 from hy]
  rfl
end Go.Proofs.Ytfekkdmnboccfaa
