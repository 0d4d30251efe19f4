/- the reference: bytes of messages; message's law 3.  Conditions: the messages may be read. -/
import Derived.Test.YtfekkdmnboccfaaRBi
namespace Go.Proofs.Ytfekkdmnboccfaa
set_option linter.unusedSimpArgs false
set_option linter.unusedVariables false
open Go Go.RowKit VC
variable {w : World}
/-- A text, cut. -/
theorem slice_txt {bs : List Int} {l h : Nat} {kl kh : IntKind} {K : Value → World → Prop} (hl : l ≤ h) (hh : h ≤ bs.length) (k : K (.string (txt ((bs.take h).drop l))) w) :
    runs Try.prog (Instr.sliceAt 9 (.string (txt bs)) (some (.int kl (l : Int))) (some (.int kh (h : Int))) none) w K := by
  refine slice_str (by rw [row9]) hl (by rw [List.length_map]; exact hh) ?_
  rw [← List.map_take, ← List.map_drop]
  exact k
theorem chunk {ys : List Int} (hy : ∀ y ∈ ys, 0 ≤ y ∧ y < 256) {i : Nat} {y : Int} (h : ys[i]? = some y) : val (((byteBits ys).take (8 * i + 8)).drop (8 * i)) = y := by
  have hyy := hy y (List.mem_of_getElem? h)
  obtain ⟨m, rfl⟩ : ∃ m : Nat, y = m := ⟨y.toNat, by omega⟩
  have e : ((byteBits ys).take (8 * i + 8)).drop (8 * i) = bitsOf (m : Int) 8 := by
    have hil := (List.getElem?_eq_some_iff.1 h).1
    have hs : ys = ys.take i ++ (m : Int) :: ys.drop (i + 1) := by
      have h1 := (List.getElem?_eq_some_iff.1 h).2
      rw [← h1, ← List.drop_eq_getElem_cons hil, List.take_append_drop]
    have hl : (byteBits (ys.take i)).length = 8 * i := by rw [byteBits_length, List.length_take]; omega
    rw [hs, byteBits_app]
    rw [show byteBits ((m : Int) :: ys.drop (i + 1)) = bitsOf (IntKind.u64.wrap (m : Int)) 8 ++ byteBits (ys.drop (i + 1)) from rfl, u64n (by omega)]
    rw [List.take_append, hl, List.drop_append, List.take_of_length_le (by omega), List.drop_of_length_le (by omega), hl]
    rw [show 8 * i + 8 - 8 * i = 8 by omega, Nat.sub_self, List.drop_zero, List.nil_append, List.take_append_of_le_length (by rw [bitsOf_length]; omega), List.take_of_length_le (by rw [bitsOf_length]; omega)]
  rw [e, val_bitsOf m 8 (by omega)]
  omega
set_option maxRecDepth 20000 in
set_option maxHeartbeats 1000000 in
theorem bytes49_c {bs : List Int} (hb : ∀ b ∈ bs, Bit b) (hl : bs.length ≤ 100000000) : callV Try.prog 49 [.string (txt bs)] w fun v w' => v = .string (strOfNums (pack bs)) ∧ Fm none' w w' := by
  have hpl := pack_length bs
  have hbp := byteBits_pack bs hb
  refine vc49 _ w _ ?_
  refine ⟨fun u w' => ∃ z : Nat, bs.length + z ≤ 8 * (pack bs).length ∧ u 0 = .string (txt (bs ++ List.replicate z 0)) ∧ Fm none' w w', fun u _ => match u 0 with | .string s => 8 * (pack bs).length - s.size | _ => 0, ⟨0, by omega, by simp [alist], Fm.refl _ _⟩, ?_⟩
  rintro u w3 ⟨z, hz, h0, hF⟩
  change u 0 = _ at h0
  simp only [h0, isB_i, isK_i, isP_i, isTup_i, isInt_i, isSl_i, isPtr_i, isCs_i, isStr_i, isFn_i, isIf_i, rd_i, br_t, br_f, orO_s, orO_n, gd_t, bv_add, bv_sub, bv_mul, bv_eql, bv_neq, bv_lss, bv_leq, bv_gtr, bv_geq, bv_quo, bv_rem, bv_shl, bv_shr, bv_seq, bv_sne, bv_ptr, bv_if, bv_map, bv_nf, bv_bool, bv_sl, bv_fn, uv_not, uv_neg, eqV, nilV, nc_ptr, nc_fn, nc_if, Option.map_some, toN, Nat.mul_one, implies_true, true_and, and_true, and_self, txt_size, List.length_append, List.length_replicate]
  have htm : Int.tmod ((bs.length + z : Nat) : Int) 8 = (((bs.length + z) % 8 : Nat) : Int) := by rw [Int.tmod_eq_emod_of_nonneg (Int.natCast_nonneg _)]; norm_cast
  rw [htm]
  refine br_ndec (fun h8 => ?_) (fun h8 => ?_)
  · refine cat_txt (ys := [0]) (by simp; omega) ?_
    simp only [isB_i, isK_i, isP_i, isTup_i, isInt_i, isSl_i, isPtr_i, isCs_i, isStr_i, isFn_i, isIf_i, rd_i, br_t, br_f, orO_s, orO_n, gd_t, bv_add, bv_sub, bv_mul, bv_eql, bv_neq, bv_lss, bv_leq, bv_gtr, bv_geq, bv_quo, bv_rem, bv_shl, bv_shr, bv_seq, bv_sne, bv_ptr, bv_if, bv_map, bv_nf, bv_bool, bv_sl, bv_fn, uv_not, uv_neg, eqV, nilV, nc_ptr, nc_fn, nc_if, Option.map_some, toN, Nat.mul_one, implies_true, true_and, and_true, and_self]
    refine ⟨⟨z + 1, by omega, ?_, hF⟩, ?_⟩
    · show Value.string _ = _
      rw [List.append_assoc]
      congr 3
      rw [List.replicate_succ']
    · show 8 * (pack bs).length - (txt _).size < 8 * (pack bs).length - (txt _).size
      rw [txt_size, txt_size]; simp; omega
  · have hz8 : bs.length + z = 8 * (pack bs).length := by omega
    have hps : bs ++ List.replicate z 0 = byteBits (pack bs) := by
      rw [hbp]; congr 2; omega
    rw [hps]
    refine ⟨fun u' w' => ∃ i : Nat, i ≤ (pack bs).length ∧ u' 3 = .string (strOfNums ((pack bs).take i)) ∧ u' 4 = .int .i64 ((8 * i : Nat) : Int) ∧ Fm none' w w', fun u' _ => 8 * (pack bs).length - (intOf (u' 4)).toNat, ⟨0, by omega, rfl, rfl, hF⟩, ?_⟩
    rintro u' w12 ⟨i, hi, h3, h4, hF12⟩
    change u' 3 = _ at h3
    change u' 4 = _ at h4
    simp only [h3, h4, isB_i, isK_i, isP_i, isTup_i, isInt_i, isSl_i, isPtr_i, isCs_i, isStr_i, isFn_i, isIf_i, rd_i, br_t, br_f, orO_s, orO_n, gd_t, bv_add, bv_sub, bv_mul, bv_eql, bv_neq, bv_lss, bv_leq, bv_gtr, bv_geq, bv_quo, bv_rem, bv_shl, bv_shr, bv_seq, bv_sne, bv_ptr, bv_if, bv_map, bv_nf, bv_bool, bv_sl, bv_fn, uv_not, uv_neg, eqV, nilV, nc_ptr, nc_fn, nc_if, Option.map_some, toN, Nat.mul_one, implies_true, true_and, and_true, and_self]
    rw [show ((bs.length + z : Nat) : Int) = ((8 * (pack bs).length : Nat) : Int) by rw [hz8]]
    refine br_dec (fun hil => ?_) (fun hil => ?_)
    · obtain ⟨y, hy⟩ : ∃ y, (pack bs)[i]? = some y := ⟨(pack bs)[i]'(by omega), by simp⟩
      have hyr := pack_range bs
      have hyy := hyr y (List.mem_of_getElem? hy)
      have hch := chunk hyr hy
      rw [w64 (by omega), show (((8 * i : Nat) : Int) + 8) = ((8 * i + 8 : Nat) : Int) by push_cast; rfl]
      refine slice_txt (by omega) (by rw [byteBits_length]; omega) ?_
      simp only [isB_i, isK_i, isP_i, isTup_i, isInt_i, isSl_i, isPtr_i, isCs_i, isStr_i, isFn_i, isIf_i, rd_i, br_t, br_f, orO_s, orO_n, gd_t, bv_add, bv_sub, bv_mul, bv_eql, bv_neq, bv_lss, bv_leq, bv_gtr, bv_geq, bv_quo, bv_rem, bv_shl, bv_shr, bv_seq, bv_sne, bv_ptr, bv_if, bv_map, bv_nf, bv_bool, bv_sl, bv_fn, uv_not, uv_neg, eqV, nilV, nc_ptr, nc_fn, nc_if, Option.map_some, toN, Nat.mul_one, implies_true, true_and, and_true, and_self]
      refine (number55_c (fun b hb' => byteBits_bit _ b (List.mem_of_mem_take (List.mem_of_mem_drop hb'))) (by rw [List.length_drop, List.length_take]; omega)).mono ?_
      rw [hch]
      rintro _ w24 ⟨rfl, hf24⟩
      simp only [isB_i, isK_i, isP_i, isTup_i, isInt_i, isSl_i, isPtr_i, isCs_i, isStr_i, isFn_i, isIf_i, rd_i, br_t, br_f, orO_s, orO_n, gd_t, bv_add, bv_sub, bv_mul, bv_eql, bv_neq, bv_lss, bv_leq, bv_gtr, bv_geq, bv_quo, bv_rem, bv_shl, bv_shr, bv_seq, bv_sne, bv_ptr, bv_if, bv_map, bv_nf, bv_bool, bv_sl, bv_fn, uv_not, uv_neg, eqV, nilV, nc_ptr, nc_fn, nc_if, Option.map_some, toN, Nat.mul_one, implies_true, true_and, and_true, and_self]
      have hw8 : IntKind.u8.wrap y = y := by simp only [IntKind.wrap, IntKind.bits, IntKind.signed]; simp; omega
      rw [hw8]
      refine build_1 (by rw [row25]) row5 rfl rfl fun w27 hb27 hs27 hf27 => ?_
      simp only [isB_i, isK_i, isP_i, isTup_i, isInt_i, isSl_i, isPtr_i, isCs_i, isStr_i, isFn_i, isIf_i, rd_i, br_t, br_f, orO_s, orO_n, gd_t, bv_add, bv_sub, bv_mul, bv_eql, bv_neq, bv_lss, bv_leq, bv_gtr, bv_geq, bv_quo, bv_rem, bv_shl, bv_shr, bv_seq, bv_sne, bv_ptr, bv_if, bv_map, bv_nf, bv_bool, bv_sl, bv_fn, uv_not, uv_neg, eqV, nilV, nc_ptr, nc_fn, nc_if, Option.map_some, toN, Nat.mul_one, implies_true, true_and, and_true, and_self]
      refine conv_bytes (ys := [y]) (by rw [row25]) (by rw [row5]) (by rw [row9]) rfl (fun j y' hj => ?_) ?_
      · obtain rfl : j = 0 := by have := (List.getElem?_eq_some_iff.1 hj).1; simp at this; omega
        simp at hj; subst hj
        exact ⟨_, rfl, cellOf hb27 rfl⟩
      simp only [isB_i, isK_i, isP_i, isTup_i, isInt_i, isSl_i, isPtr_i, isCs_i, isStr_i, isFn_i, isIf_i, rd_i, br_t, br_f, orO_s, orO_n, gd_t, bv_add, bv_sub, bv_mul, bv_eql, bv_neq, bv_lss, bv_leq, bv_gtr, bv_geq, bv_quo, bv_rem, bv_shl, bv_shr, bv_seq, bv_sne, bv_ptr, bv_if, bv_map, bv_nf, bv_bool, bv_sl, bv_fn, uv_not, uv_neg, eqV, nilV, nc_ptr, nc_fn, nc_if, Option.map_some, toN, Nat.mul_one, implies_true, true_and, and_true, and_self]
      rw [bv_cat (by rw [strOfNums_size, strOfNums_size, List.length_take]; simp; omega), strOfNums_app]
      simp only [isB_i, isK_i, isP_i, isTup_i, isInt_i, isSl_i, isPtr_i, isCs_i, isStr_i, isFn_i, isIf_i, rd_i, br_t, br_f, orO_s, orO_n, gd_t, bv_add, bv_sub, bv_mul, bv_eql, bv_neq, bv_lss, bv_leq, bv_gtr, bv_geq, bv_quo, bv_rem, bv_shl, bv_shr, bv_seq, bv_sne, bv_ptr, bv_if, bv_map, bv_nf, bv_bool, bv_sl, bv_fn, uv_not, uv_neg, eqV, nilV, nc_ptr, nc_fn, nc_if, Option.map_some, toN, Nat.mul_one, implies_true, true_and, and_true, and_self]
      refine ⟨⟨i + 1, by omega, ?_, by show Value.int _ _ = _; congr 1, (hF12.trans hf24).trans hf27⟩, ?_⟩
      · show Value.string _ = _
        rw [List.take_add_one, hy]; rfl
      · show 8 * (pack bs).length - (((8 * i + 8 : Nat) : Int)).toNat < 8 * (pack bs).length - ((8 * i : Nat) : Int).toNat; omega
    · have : i = (pack bs).length := by omega
      subst this
      rw [List.take_length]
      exact ⟨rfl, hF12⟩
theorem oneBits_bit (m : Msg) : ∀ b ∈ oneBits m, Bit b := app_bit (bitsOf_bit _ _) (fieldBits_bit m)
theorem flat_bit (l : List Msg) : ∀ b ∈ l.flatMap oneBits, Bit b := by
  intro b hb
  simp only [List.mem_flatMap] at hb
  obtain ⟨m, _, hb⟩ := hb
  exact oneBits_bit m b hb
set_option maxRecDepth 20000 in
set_option maxHeartbeats 1000000 in
theorem write24_c {ms : List Msg} {p : Option Addr} {c : Nat} (hm : MsgsAt w w.heap.size p ms) (hok : Msok ms) (hk : ∀ m ∈ ms, 1 ≤ m.kind ∧ m.kind ≤ 9) (hlen : ms.length ≤ 100) :
    callV Try.prog 24 [.slice p ms.length c] w fun v w' => v = .string (strOfNums (pack (encBits ms))) ∧ Fm none' w w' := by
  have hsum : ∀ j, ((ms.take j).flatMap oneBits).length ≤ 1630400 := by
    intro j
    have h1 := oneBits_sum (ms := ms.take j) fun m hm => hok.len m (List.mem_of_mem_take hm)
    have h2 : (ms.take j).length ≤ 100 := by rw [List.length_take]; omega
    exact Nat.le_trans h1 (Nat.mul_le_mul_right 16304 h2)
  refine vc24 p ms.length c w _ ?_
  refine (textX (ms.length : Int) 5 (by omega)).mono ?_
  rintro _ w1 ⟨rfl, hf1⟩
  simp only [isB_i, isK_i, isP_i, isTup_i, isInt_i, isSl_i, isPtr_i, isCs_i, isStr_i, isFn_i, isIf_i, rd_i, br_t, br_f, orO_s, orO_n, gd_t, bv_add, bv_sub, bv_mul, bv_eql, bv_neq, bv_lss, bv_leq, bv_gtr, bv_geq, bv_quo, bv_rem, bv_shl, bv_shr, bv_seq, bv_sne, bv_ptr, bv_if, bv_map, bv_nf, bv_bool, bv_sl, bv_fn, uv_not, uv_neg, eqV, nilV, nc_ptr, nc_fn, nc_if, Option.map_some, toN, Nat.mul_one, implies_true, true_and, and_true, and_self]
  refine ⟨fun u w' => ∃ j : Nat, j ≤ ms.length ∧ u 3 = .string (txt (bitsOf (IntKind.u64.wrap (ms.length : Int)) 5 ++ (ms.take j).flatMap oneBits)) ∧ u 4 = .int .i64 j ∧ Fm none' w w', fun u _ => ms.length - (intOf (u 4)).toNat, ⟨0, by omega, by simp [alist], rfl, hf1⟩, ?_⟩
  rintro u w6 ⟨j, hj, h3, h4, hF⟩
  change u 3 = _ at h3
  change u 4 = _ at h4
  simp only [h3, h4, isB_i, isK_i, isP_i, isTup_i, isInt_i, isSl_i, isPtr_i, isCs_i, isStr_i, isFn_i, isIf_i, rd_i, br_t, br_f, orO_s, orO_n, gd_t, bv_add, bv_sub, bv_mul, bv_eql, bv_neq, bv_lss, bv_leq, bv_gtr, bv_geq, bv_quo, bv_rem, bv_shl, bv_shr, bv_seq, bv_sne, bv_ptr, bv_if, bv_map, bv_nf, bv_bool, bv_sl, bv_fn, uv_not, uv_neg, eqV, nilV, nc_ptr, nc_fn, nc_if, Option.map_some, toN, Nat.mul_one, implies_true, true_and, and_true, and_self]
  have hs := hsum j
  refine br_dec (fun hjl => ?_) (fun hjl => ?_)
  · obtain ⟨m, hmj⟩ : ∃ m, ms[j]? = some m := ⟨ms[j]'(by omega), by simp⟩
    have hmem := List.mem_of_getElem? hmj
    obtain ⟨ad, q, cq, rfl, hadN, hcells, hq, -⟩ := (hm.keep hF fun _ _ => id) j m hmj
    simp only [isB_i, isK_i, isP_i, isTup_i, isInt_i, isSl_i, isPtr_i, isCs_i, isStr_i, isFn_i, isIf_i, rd_i, br_t, br_f, orO_s, orO_n, gd_t, bv_add, bv_sub, bv_mul, bv_eql, bv_neq, bv_lss, bv_leq, bv_gtr, bv_geq, bv_quo, bv_rem, bv_shl, bv_shr, bv_seq, bv_sne, bv_ptr, bv_if, bv_map, bv_nf, bv_bool, bv_sl, bv_fn, uv_not, uv_neg, eqV, nilV, nc_ptr, nc_fn, nc_if, Option.map_some, toN, Nat.mul_one, implies_true, true_and, and_true, and_self]
    refine ⟨by omega, rd_of hcells ?_⟩
    refine (bits48_c (hok.ok m hmem) (hok.len m hmem) hq (hk m hmem).1 (hk m hmem).2).mono ?_
    rintro _ w14 ⟨rfl, hf14⟩
    simp only [isB_i, isK_i, isP_i, isTup_i, isInt_i, isSl_i, isPtr_i, isCs_i, isStr_i, isFn_i, isIf_i, rd_i, br_t, br_f, orO_s, orO_n, gd_t, bv_add, bv_sub, bv_mul, bv_eql, bv_neq, bv_lss, bv_leq, bv_gtr, bv_geq, bv_quo, bv_rem, bv_shl, bv_shr, bv_seq, bv_sne, bv_ptr, bv_if, bv_map, bv_nf, bv_bool, bv_sl, bv_fn, uv_not, uv_neg, eqV, nilV, nc_ptr, nc_fn, nc_if, Option.map_some, toN, Nat.mul_one, implies_true, true_and, and_true, and_self]
    have hfl := fieldBits_len m
    have hml := hok.len m hmem
    refine cat1 (by rw [List.length_append, bitsOf_length]; unfold oneBits at hs ⊢; rw [List.length_append, bitsOf_length]; omega) ?_
    rw [w64 (by omega)]
    refine ⟨⟨j + 1, by omega, ?_, rfl, hF.trans hf14⟩, ?_⟩
    · show Value.string _ = _
      rw [List.take_add_one, hmj, List.flatMap_append, List.append_assoc]
      simp
    · show ms.length - ((j : Int) + 1).toNat < ms.length - (j : Int).toNat; omega
  · have : j = ms.length := by omega
    subst this
    rw [List.take_length]
    rw [List.take_length] at hs
    refine (bytes49_c (app_bit (bitsOf_bit _ _) (flat_bit ms)) (by rw [List.length_append, bitsOf_length]; omega)).mono ?_
    rintro _ w20 ⟨rfl, hf20⟩
    simp only [isB_i, isK_i, isP_i, isTup_i, isInt_i, isSl_i, isPtr_i, isCs_i, isStr_i, isFn_i, isIf_i, rd_i, br_t, br_f, orO_s, orO_n, gd_t, bv_add, bv_sub, bv_mul, bv_eql, bv_neq, bv_lss, bv_leq, bv_gtr, bv_geq, bv_quo, bv_rem, bv_shl, bv_shr, bv_seq, bv_sne, bv_ptr, bv_if, bv_map, bv_nf, bv_bool, bv_sl, bv_fn, uv_not, uv_neg, eqV, nilV, nc_ptr, nc_fn, nc_if, Option.map_some, toN, Nat.mul_one, implies_true, true_and, and_true, and_self]
    exact ⟨rfl, hF.trans hf20⟩
set_option maxRecDepth 20000 in
set_option maxHeartbeats 1000000 in
theorem encode15_c {ms : List Msg} {p : Option Addr} {c : Nat} (hm : MsgsAt w w.heap.size p ms) (hok : Msok ms) (hlen : ms.length ≤ 100) :
    callV Try.prog 15 [.slice p ms.length c] w fun v w' => v = .tuple #[.string (strOfNums (encodeM ms).1), .int .i64 (encodeM ms).2] ∧ Fm none' w w' := by
  refine vc15 p ms.length c w _ ?_
  refine ⟨fun u w' => ∃ j : Nat, j ≤ ms.length ∧ u 4 = .int .i64 j ∧ (∀ m ∈ ms.take j, rightM m = true) ∧ Fm none' w w', fun u _ => ms.length - (intOf (u 4)).toNat, ⟨0, by omega, rfl, by simp, Fm.refl _ _⟩, ?_⟩
  rintro u w3 ⟨j, hj, h4, hright, hF⟩
  change u 4 = _ at h4
  simp only [h4, isB_i, isK_i, isP_i, isTup_i, isInt_i, isSl_i, isPtr_i, isCs_i, isStr_i, isFn_i, isIf_i, rd_i, br_t, br_f, orO_s, orO_n, gd_t, bv_add, bv_sub, bv_mul, bv_eql, bv_neq, bv_lss, bv_leq, bv_gtr, bv_geq, bv_quo, bv_rem, bv_shl, bv_shr, bv_seq, bv_sne, bv_ptr, bv_if, bv_map, bv_nf, bv_bool, bv_sl, bv_fn, uv_not, uv_neg, eqV, nilV, nc_ptr, nc_fn, nc_if, Option.map_some, toN, Nat.mul_one, implies_true, true_and, and_true, and_self]
  refine br_dec (fun hjl => ?_) (fun hjl => ?_)
  · obtain ⟨m, hmj⟩ : ∃ m, ms[j]? = some m := ⟨ms[j]'(by omega), by simp⟩
    have hmem := List.mem_of_getElem? hmj
    obtain ⟨ad, q, cq, rfl, hadN, hcells, hq, -⟩ := (hm.keep hF fun _ _ => id) j m hmj
    simp only [isB_i, isK_i, isP_i, isTup_i, isInt_i, isSl_i, isPtr_i, isCs_i, isStr_i, isFn_i, isIf_i, rd_i, br_t, br_f, orO_s, orO_n, gd_t, bv_add, bv_sub, bv_mul, bv_eql, bv_neq, bv_lss, bv_leq, bv_gtr, bv_geq, bv_quo, bv_rem, bv_shl, bv_shr, bv_seq, bv_sne, bv_ptr, bv_if, bv_map, bv_nf, bv_bool, bv_sl, bv_fn, uv_not, uv_neg, eqV, nilV, nc_ptr, nc_fn, nc_if, Option.map_some, toN, Nat.mul_one, implies_true, true_and, and_true, and_self]
    refine ⟨by omega, rd_of hcells ?_⟩
    refine (right17_c (hok.ok m hmem) (by have := hok.len m hmem; omega) hq).mono ?_
    rintro _ w10 ⟨rfl, hf10⟩
    simp only [isB_i, isK_i, isP_i, isTup_i, isInt_i, isSl_i, isPtr_i, isCs_i, isStr_i, isFn_i, isIf_i, rd_i, br_t, br_f, orO_s, orO_n, gd_t, bv_add, bv_sub, bv_mul, bv_eql, bv_neq, bv_lss, bv_leq, bv_gtr, bv_geq, bv_quo, bv_rem, bv_shl, bv_shr, bv_seq, bv_sne, bv_ptr, bv_if, bv_map, bv_nf, bv_bool, bv_sl, bv_fn, uv_not, uv_neg, eqV, nilV, nc_ptr, nc_fn, nc_if, Option.map_some, toN, Nat.mul_one, implies_true, true_and, and_true, and_self]
    refine br_ndec' (fun hr => ?_) (fun hr => ?_)
    · have : encodeM ms = ([], 1) := by
        unfold encodeM
        rw [if_neg]
        intro h
        rw [List.all_eq_true] at h
        rw [h m hmem] at hr; cases hr
      rw [this]
      exact ⟨rfl, hF.trans hf10⟩
    · rw [w64 (by omega)]
      refine ⟨⟨j + 1, by omega, rfl, ?_, hF.trans hf10⟩, by show ms.length - ((j : Int) + 1).toNat < ms.length - (j : Int).toNat; omega⟩
      intro x hx
      rw [List.take_add_one, hmj] at hx
      rcases List.mem_append.1 hx with hx | hx
      · exact hright x hx
      · simp at hx; subst hx; exact hr
  · have : j = ms.length := by omega
    subst this
    rw [List.take_length] at hright
    have hall : ms.all rightM = true := List.all_eq_true.2 hright
    have e1 : encodeM ms = if 16 < ms.length ∨ 1024 < (pack (encBits ms)).length then ([], 5) else (pack (encBits ms), 0) := by unfold encodeM; rw [if_pos hall]
    refine br_dec (fun h16 => ?_) (fun h16 => ?_)
    · have : encodeM ms = ([], 5) := e1.trans (if_pos (.inl (by omega)))
      rw [this]
      exact ⟨rfl, hF⟩
    · refine (write24_c (hm.fm hF) hok (fun m hm => ?_) hlen).mono ?_
      · have := rok_of (hok.ok m hm) (by have := hok.len m hm; omega) (hright m hm)
        exact known_iff.1 this.known
      rintro _ w14 ⟨rfl, hf14⟩
      simp only [isB_i, isK_i, isP_i, isTup_i, isInt_i, isSl_i, isPtr_i, isCs_i, isStr_i, isFn_i, isIf_i, rd_i, br_t, br_f, orO_s, orO_n, gd_t, bv_add, bv_sub, bv_mul, bv_eql, bv_neq, bv_lss, bv_leq, bv_gtr, bv_geq, bv_quo, bv_rem, bv_shl, bv_shr, bv_seq, bv_sne, bv_ptr, bv_if, bv_map, bv_nf, bv_bool, bv_sl, bv_fn, uv_not, uv_neg, eqV, nilV, nc_ptr, nc_fn, nc_if, Option.map_some, toN, Nat.mul_one, implies_true, true_and, and_true, and_self, strOfNums_size]
      refine br_dec (fun h10 => ?_) (fun h10 => ?_)
      · have : encodeM ms = ([], 5) := e1.trans (if_pos (.inr (by omega)))
        rw [this]
        exact ⟨rfl, hF.trans hf14⟩
      · have : encodeM ms = (pack (encBits ms), 0) := e1.trans (if_neg (by omega))
        rw [this]
        exact ⟨rfl, hF.trans hf14⟩
set_option maxRecDepth 20000 in
set_option maxHeartbeats 1000000 in
theorem writes_c {ms : List Msg} {p : Option Addr} {n c : Nat} (hn : n = ms.length) (hin : In w p ms) :
    callV Try.prog 3 [.slice p n c] w fun v w' => v = .bool true ∧ Fm none' w w' := by
  subst hn
  refine vc3 p ms.length c w _ ?_
  refine shown12_c.mono ?_
  rintro _ w1 ⟨rfl, hf1⟩
  simp only [isB_i, isK_i, isP_i, isTup_i, isInt_i, isSl_i, isPtr_i, isCs_i, isStr_i, isFn_i, isIf_i, rd_i, br_t, br_f, orO_s, orO_n, gd_t, bv_add, bv_sub, bv_mul, bv_eql, bv_neq, bv_lss, bv_leq, bv_gtr, bv_geq, bv_quo, bv_rem, bv_shl, bv_shr, bv_seq, bv_sne, bv_ptr, bv_if, bv_map, bv_nf, bv_bool, bv_sl, bv_fn, uv_not, uv_neg, eqV, nilV, nc_ptr, nc_fn, nc_if, Option.map_some, toN, Nat.mul_one, implies_true, true_and, and_true, and_self]
  obtain ⟨hok, hl⟩ := few_ok hin.ok
  refine (few_run (hin.keep hf1)).mono ?_
  rintro _ w4 ⟨q, d, rfl, hat, hf4⟩
  simp only [isB_i, isK_i, isP_i, isTup_i, isInt_i, isSl_i, isPtr_i, isCs_i, isStr_i, isFn_i, isIf_i, rd_i, br_t, br_f, orO_s, orO_n, gd_t, bv_add, bv_sub, bv_mul, bv_eql, bv_neq, bv_lss, bv_leq, bv_gtr, bv_geq, bv_quo, bv_rem, bv_shl, bv_shr, bv_seq, bv_sne, bv_ptr, bv_if, bv_map, bv_nf, bv_bool, bv_sl, bv_fn, uv_not, uv_neg, eqV, nilV, nc_ptr, nc_fn, nc_if, Option.map_some, toN, Nat.mul_one, implies_true, true_and, and_true, and_self]
  have hl20 := few_len ms
  refine (enc_run hat hok).mono ?_
  rintro _ w9 ⟨e, ed, rfl, hbe, -, hf9⟩
  simp only [isB_i, isK_i, isP_i, isTup_i, isInt_i, isSl_i, isPtr_i, isCs_i, isStr_i, isFn_i, isIf_i, rd_i, br_t, br_f, orO_s, orO_n, gd_t, bv_add, bv_sub, bv_mul, bv_eql, bv_neq, bv_lss, bv_leq, bv_gtr, bv_geq, bv_quo, bv_rem, bv_shl, bv_shr, bv_seq, bv_sne, bv_ptr, bv_if, bv_map, bv_nf, bv_bool, bv_sl, bv_fn, uv_not, uv_neg, eqV, nilV, nc_ptr, nc_fn, nc_if, Option.map_some, toN, Nat.mul_one, implies_true, true_and, and_true, and_self, List.getElem?_cons_zero, List.getElem?_cons_succ]
  refine (encode15_c (hat.fm hf9) hok (by omega)).mono ?_
  rintro _ w19 ⟨rfl, hf19⟩
  simp only [isB_i, isK_i, isP_i, isTup_i, isInt_i, isSl_i, isPtr_i, isCs_i, isStr_i, isFn_i, isIf_i, rd_i, br_t, br_f, orO_s, orO_n, gd_t, bv_add, bv_sub, bv_mul, bv_eql, bv_neq, bv_lss, bv_leq, bv_gtr, bv_geq, bv_quo, bv_rem, bv_shl, bv_shr, bv_seq, bv_sne, bv_ptr, bv_if, bv_map, bv_nf, bv_bool, bv_sl, bv_fn, uv_not, uv_neg, eqV, nilV, nc_ptr, nc_fn, nc_if, Option.map_some, toN, Nat.mul_one, implies_true, true_and, and_true, and_self, List.getElem?_cons_zero, List.getElem?_cons_succ]
  have hF19 := ((hf1.trans hf4).trans hf9).trans hf19
  have hat19 := (hat.fm hf9).fm hf19
  refine ⟨fun u w' => ∃ i : Nat, i ≤ (fewM ms).length ∧ u 8 = .int .i64 i ∧ Fm none' w19 w', fun u _ => (fewM ms).length - (intOf (u 8)).toNat, ⟨0, by omega, rfl, Fm.refl _ _⟩, ?_⟩
  rintro u w29 ⟨i, hi, h8, hF⟩
  change u 8 = _ at h8
  simp only [h8, isB_i, isK_i, isP_i, isTup_i, isInt_i, isSl_i, isPtr_i, isCs_i, isStr_i, isFn_i, isIf_i, rd_i, br_t, br_f, orO_s, orO_n, gd_t, bv_add, bv_sub, bv_mul, bv_eql, bv_neq, bv_lss, bv_leq, bv_gtr, bv_geq, bv_quo, bv_rem, bv_shl, bv_shr, bv_seq, bv_sne, bv_ptr, bv_if, bv_map, bv_nf, bv_bool, bv_sl, bv_fn, uv_not, uv_neg, eqV, nilV, nc_ptr, nc_fn, nc_if, Option.map_some, toN, Nat.mul_one, implies_true, true_and, and_true, and_self]
  refine br_dec (fun hil => ?_) (fun hil => ?_)
  · obtain ⟨m, hmi⟩ : ∃ m, (fewM ms)[i]? = some m := ⟨(fewM ms)[i]'(by omega), by simp⟩
    have hmem := List.mem_of_getElem? hmi
    have hFd := hF.trans (Fm.drew w29)
    obtain ⟨ad, q1, c1, rfl, hN1, hc1, hb1, hq1⟩ := (hat19.fm hFd) i m hmi
    refine ⟨fun w' => cellsAt w' (ad.add (i * 23)) 23 = some (msgC m q1 c1), hc1, ?_⟩
    simp only [isB_i, isK_i, isP_i, isTup_i, isInt_i, isSl_i, isPtr_i, isCs_i, isStr_i, isFn_i, isIf_i, rd_i, br_t, br_f, orO_s, orO_n, gd_t, bv_add, bv_sub, bv_mul, bv_eql, bv_neq, bv_lss, bv_leq, bv_gtr, bv_geq, bv_quo, bv_rem, bv_shl, bv_shr, bv_seq, bv_sne, bv_ptr, bv_if, bv_map, bv_nf, bv_bool, bv_sl, bv_fn, uv_not, uv_neg, eqV, nilV, nc_ptr, nc_fn, nc_if, Option.map_some, toN, Nat.mul_one, implies_true, true_and, and_true, and_self]
    refine ⟨by omega, fun _ _ => by omega, rd_of hc1 ⟨fun w' hw => rd_of hw rfl, ?_⟩⟩
    refine ⟨by omega, fun _ _ => by omega, rd_of hc1 ⟨fun w' hw => rd_of hw rfl, ?_⟩⟩
    have hml := hl m hmem
    refine (right16_c (hok.ok m hmem) hb1 hb1.lt (by omega)).mono ?_
    rintro _ w60 ⟨rfl, hf60⟩
    simp only [isB_i, isK_i, isP_i, isTup_i, isInt_i, isSl_i, isPtr_i, isCs_i, isStr_i, isFn_i, isIf_i, rd_i, br_t, br_f, orO_s, orO_n, gd_t, bv_add, bv_sub, bv_mul, bv_eql, bv_neq, bv_lss, bv_leq, bv_gtr, bv_geq, bv_quo, bv_rem, bv_shl, bv_shr, bv_seq, bv_sne, bv_ptr, bv_if, bv_map, bv_nf, bv_bool, bv_sl, bv_fn, uv_not, uv_neg, eqV, nilV, nc_ptr, nc_fn, nc_if, Option.map_some, toN, Nat.mul_one, implies_true, true_and, and_true, and_self]
    refine ⟨hf60.cells id hc1, (right17_c (hok.ok m hmem) (by omega) (hb1.keep hf60 fun _ _ => id)).mono ?_⟩
    rintro _ w63 ⟨rfl, hf63⟩
    simp only [decide_true, Bool.not_true, isB_i, isK_i, isP_i, isTup_i, isInt_i, isSl_i, isPtr_i, isCs_i, isStr_i, isFn_i, isIf_i, rd_i, br_t, br_f, orO_s, orO_n, gd_t, bv_add, bv_sub, bv_mul, bv_eql, bv_neq, bv_lss, bv_leq, bv_gtr, bv_geq, bv_quo, bv_rem, bv_shl, bv_shr, bv_seq, bv_sne, bv_ptr, bv_if, bv_map, bv_nf, bv_bool, bv_sl, bv_fn, uv_not, uv_neg, eqV, nilV, nc_ptr, nc_fn, nc_if, Option.map_some, toN, Nat.mul_one, implies_true, true_and, and_true, and_self]
    rw [w64 (by omega)]
    refine ⟨hf63.cells id (hf60.cells id hc1), ⟨i + 1, by omega, rfl, (hFd.trans hf60).trans hf63⟩, ?_⟩
    show (fewM ms).length - ((i : Int) + 1).toNat < (fewM ms).length - (i : Int).toNat; omega
  · refine conv_bytes (by rw [row25]) (by rw [row5]) (by rw [row9]) rfl (hbe.keep (hf19.trans hF) fun _ _ => id) ?_
    simp only [decide_true, isB_i, isK_i, isP_i, isTup_i, isInt_i, isSl_i, isPtr_i, isCs_i, isStr_i, isFn_i, isIf_i, rd_i, br_t, br_f, orO_s, orO_n, gd_t, bv_add, bv_sub, bv_mul, bv_eql, bv_neq, bv_lss, bv_leq, bv_gtr, bv_geq, bv_quo, bv_rem, bv_shl, bv_shr, bv_seq, bv_sne, bv_ptr, bv_if, bv_map, bv_nf, bv_bool, bv_sl, bv_fn, uv_not, uv_neg, eqV, nilV, nc_ptr, nc_fn, nc_if, Option.map_some, toN, Nat.mul_one, implies_true, true_and, and_true, and_self]
    exact hF19.trans hF
end Go.Proofs.Ytfekkdmnboccfaa
