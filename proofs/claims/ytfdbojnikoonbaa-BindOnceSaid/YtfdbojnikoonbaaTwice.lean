/- BindTwice comes to true and turns nothing that was there.  Conditions: the argument's cells hold operations. -/
import Derived.Test.YtfdbojnikoonbaaApart
namespace Go.Proofs.Ytfdbojnikoonbaa
set_option linter.unusedSimpArgs false
set_option linter.unusedVariables false
open Go Go.RowKit VC
/-- A table beyond what was there at the start, and not at x. -/
def One (W w : World) (x T : Nat) (s : St) : Prop := ∃ B : Nat → Prop, TabAt w B T s ∧ ∀ i, B i → W.heap.size ≤ i ∧ i < w.heap.size ∧ i ≠ x
variable {W w : World} {x T : Nat} {s : St}
theorem One.keep {w' : World} {S : Nat → Prop} (h : One W w x T s) (f : Fm S w w') (hS : ∀ i, i < w.heap.size → S i → i = x) : One W w' x T s := by
  obtain ⟨B, h1, h3⟩ := h
  have := f.size
  exact ⟨B, h1.keep (S := fun i => i < w.heap.size ∧ S i) (f.mono fun i hi y => ⟨hi, y⟩) fun i y z => (h3 i z).2.2 (hS i y.1 y.2), fun i hi => ⟨(h3 i hi).1, by have := (h3 i hi).2.1; omega, (h3 i hi).2.2⟩⟩
theorem One.re {x' : Nat} (h : One W w x T s) (hx : w.heap.size ≤ x') : One W w x' T s := by
  obtain ⟨B, h1, h3⟩ := h
  exact ⟨B, h1, fun i hi => ⟨(h3 i hi).1, (h3 i hi).2.1, by have := (h3 i hi).2.1; omega⟩⟩
theorem One.of {w' : World} {B : Nat → Prop} {s' : St} {r v : Value} (h3 : ∀ i, B i → W.heap.size ≤ i ∧ i < w.heap.size ∧ i ≠ x) (h1 : TabAt w B T s) (hx : x < w.heap.size) (h : Stp B w T r s' v w') : v = r ∧ One W w' x T s' ∧ Fm (fun i => W.heap.size ≤ i ∧ i ≠ x) w w' := by
  obtain ⟨rfl, h5, h6⟩ := h
  have hz := h6.size
  refine ⟨rfl, ⟨_, h5, ?_⟩, h6.mono fun i _ y => ⟨(h3 i y).1, (h3 i y).2.2⟩⟩
  rintro i (y | ⟨y, z⟩)
  · have := h3 i y; exact ⟨this.1, by omega, this.2.2⟩
  · refine ⟨?_, z, by omega⟩
    obtain ⟨_, _, _, hL, hB⟩ := h1
    have := h3 _ hB.1
    omega
theorem one_bind (who p nid : Int) (h : One W w x T s) (hx : x < w.heap.size) : callV Try.prog 9 [.pointer (some ⟨T, 0, none⟩), .int .i64 who, .int .u16 p, .int .i64 nid] w fun v w' =>
    v = .int .i64 (bindS s who p nid).1 ∧ One W w' x T (bindS s who p nid).2 ∧ Fm (fun i => W.heap.size ≤ i ∧ i ≠ x) w w' := by
  obtain ⟨B, h1, h3⟩ := h
  exact (bind9_c who p nid h1).mono fun _ _ y => One.of h3 h1 hx y
theorem one_deny (who p : Int) (h : One W w x T s) (hx : x < w.heap.size) : callV Try.prog 12 [.pointer (some ⟨T, 0, none⟩), .int .i64 who, .int .u16 p] w fun v w' =>
    v = .int .i64 (denyS s who p).1 ∧ One W w' x T (denyS s who p).2 ∧ Fm (fun i => W.heap.size ≤ i ∧ i ≠ x) w w' := by
  obtain ⟨B, h1, h3⟩ := h
  exact (deny12_c who p h1).mono fun _ _ y => One.of h3 h1 hx y
theorem one_ask (who p : Int) (h : One W w x T s) : callV Try.prog 11 [.pointer (some ⟨T, 0, none⟩), .int .i64 who, .int .u16 p] w fun v w' => v = .tuple #[.int .i64 (askS s who p).1, .int .i64 (askS s who p).2] ∧ w' = w := by
  obtain ⟨B, h1, h3⟩ := h
  exact ask_c who p h1
theorem one_len (h : One W w x T s) (hs : lenS s < 4611686018427387904) : callV Try.prog 10 [.pointer (some ⟨T, 0, none⟩)] w fun v w' => v = .int .i64 (lenS s) ∧ One W w' x T s ∧ Fm none' w w' := by
  have h0 := h
  obtain ⟨B, h1, h3⟩ := h
  exact (len10_c h1 hs).mono fun _ _ ⟨e, f⟩ => ⟨e, h0.keep f fun _ _ y => y.elim, f⟩
theorem one_new (w : World) (hw : W.heap.size ≤ w.heap.size) : callV Try.prog 8 [] w fun v w' => ∃ T, v = .pointer (some ⟨T, 0, none⟩) ∧ One W w' w'.heap.size T ⟨[], []⟩ ∧ Fm none' w w' :=
  (new8_c w).mono fun v w' ⟨T, h1, h2, h3⟩ => ⟨T, h1, ⟨_, h2, fun i hi => ⟨by omega, hi.2, by omega⟩⟩, h3⟩
theorem One.fm {w' : World} (h : Fm none' W w) (k : Fm (fun i => W.heap.size ≤ i ∧ i ≠ x) w w') : Fm none' W w' := h.trans' k fun i hi hx => by omega
theorem bindS_ok {who p nid : Int} (h : (bindS s who p nid).1 = 0) : (bindS s who p nid).2 = putS s who p nid ∧ (askS s who p).2 = 6 ∧ 1 ≤ nid ∧ (getM nid s.used).getD false = false := by
  unfold bindS at h ⊢
  split at h
  · exact absurd h (by simp)
  · rename_i h1
    split at h
    · rename_i h2
      rw [if_neg h1, if_pos h2]
      exact ⟨rfl, h2, by omega, by cases hb : (getM nid s.used).getD false with | false => rfl | true => exact absurd (.inr hb) h1⟩
    · exact absurd h (by simp)
theorem bindS_not {who p nid : Int} (h : (bindS s who p nid).1 ≠ 0) : (bindS s who p nid).2 = s := by
  unfold bindS at h ⊢
  split
  · rfl
  · rename_i h1
    rw [if_neg h1] at h
    split
    · rename_i h2; rw [if_pos h2] at h; exact absurd rfl h
    · rfl
theorem lenS_bind (who p nid : Int) : lenS (bindS s who p nid).2 ≤ lenS s + 1 := by
  by_cases h : (bindS s who p nid).1 = 0
  · rw [(bindS_ok h).1]; exact lenS_put _ _ _ _
  · rw [bindS_not h]; omega
theorem lenS_deny (who p : Int) : lenS (denyS s who p).2 ≤ lenS s + 1 := by
  unfold denyS
  split
  · exact lenS_put _ _ _ _
  · show lenS s ≤ _; omega
theorem bindS_again {who p nid : Int} (h1 : 1 ≤ nid) (h2 : ∀ q ∈ s.used.map (·.1), q ≠ nid) (h3 : (askS s who p).2 = 0) : bindS s who p nid = (7, s) := by
  unfold bindS
  rw [if_neg (by rw [fresh_of h2]; simp; omega), if_neg (by omega)]
theorem denyS_again {who p : Int} (h3 : (askS s who p).2 = 0) : denyS s who p = (7, s) := by
  unfold denyS
  rw [if_neg (by omega)]
set_option maxHeartbeats 1000000 in
set_option maxRecDepth 20000 in
theorem twice_c (ap : Option Addr) (an ac : Nat) (K C Pv D : Nat → Int) (W : World) (hl : ∀ i, i < an → ∃ ad, ap = some ad ∧ cellsAt W (ad.add (i * 4)) 4 = some [.int .i64 (K i), .int .i64 (C i), .int .u16 (Pv i), .int .i64 (D i)]) :
    callV Try.prog 5 [.slice ap an ac] W fun v w' => v = .bool true ∧ Fm none' W w' := by
  refine vc5 ap an ac W _ ?_
  refine (shown_c W).mono ?_
  rintro _ w1 ⟨rfl, hf1⟩
  simp only [isB_i, isK_i, isP_i, isTup_i, isInt_i, isSl_i, isPtr_i, isCs_i, isStr_i, isFn_i, isIf_i, rd_i, br_t, br_f, orO_s, orO_n, gd_t, bv_add, bv_sub, bv_mul, bv_eql, bv_neq, bv_lss, bv_leq, bv_gtr, bv_geq, bv_quo, bv_rem, bv_shl, bv_shr, bv_seq, bv_sne, bv_ptr, bv_if, bv_map, bv_nf, bv_bool, bv_sl, bv_fn, uv_not, uv_neg, eqV, nilV, nc_ptr, nc_fn, nc_if, Option.map_some, toN, Nat.mul_one, implies_true, true_and, and_true, and_self]
  refine (one_new (W := W) w1 hf1.size).mono ?_
  rintro _ w4 ⟨T, rfl, hT, hf4⟩
  simp only [isB_i, isK_i, isP_i, isTup_i, isInt_i, isSl_i, isPtr_i, isCs_i, isStr_i, isFn_i, isIf_i, rd_i, br_t, br_f, orO_s, orO_n, gd_t, bv_add, bv_sub, bv_mul, bv_eql, bv_neq, bv_lss, bv_leq, bv_gtr, bv_geq, bv_quo, bv_rem, bv_shl, bv_shr, bv_seq, bv_sne, bv_ptr, bv_if, bv_map, bv_nf, bv_bool, bv_sl, bv_fn, uv_not, uv_neg, eqV, nilV, nc_ptr, nc_fn, nc_if, Option.map_some, toN, Nat.mul_one, implies_true, true_and, and_true, and_self, Option.isNone_some]
  refine ⟨fun u w' => ∃ (k x : Nat) (s : St), k ≤ 100 ∧ u 5 = .int .i64 k ∧ One W w' x T s ∧ lenS s ≤ 2 * k ∧ (∀ q ∈ s.used.map (·.1), q ≤ 65536 ∨ q < 1000000 + (k : Int)) ∧ Fm none' W w', fun u _ => 100 - (intOf (u 5)).toNat, ?_, ?_⟩
  · exact ⟨0, _, _, by omega, rfl, hT, by simp [lenS], by simp, hf1.trans hf4⟩
  rintro u w9 ⟨k, x0, s, hk, h5, hO, hlen, hu, hF⟩
  change u 5 = .int .i64 k at h5
  simp only [h5, isB_i, isK_i, isP_i, isTup_i, isInt_i, isSl_i, isPtr_i, isCs_i, isStr_i, isFn_i, isIf_i, rd_i, br_t, br_f, orO_s, orO_n, gd_t, bv_add, bv_sub, bv_mul, bv_eql, bv_neq, bv_lss, bv_leq, bv_gtr, bv_geq, bv_quo, bv_rem, bv_shl, bv_shr, bv_seq, bv_sne, bv_ptr, bv_if, bv_map, bv_nf, bv_bool, bv_sl, bv_fn, uv_not, uv_neg, eqV, nilV, nc_ptr, nc_fn, nc_if, Option.map_some, toN, Nat.mul_one, implies_true, true_and, and_true, and_self]
  refine br_dec (fun hkn => ?_) (fun hkn => hF)
  refine br_dec (fun hkn2 => ?_) (fun hkn2 => hF)
  refine ⟨fun _ w' => ∃ (s' : St) (x : Nat), One W w' x T s' ∧ lenS s' ≤ 2 * (k + 1) ∧ (∀ q ∈ s'.used.map (·.1), q ≤ 65536 ∨ q < 1000000 + ((k + 1 : Nat) : Int)) ∧ Fm none' W w', ?_, fun u84 w85 ⟨s', x', hO', hl', hu', hF'⟩ => ?_⟩
  · obtain ⟨ad, rfl, hc⟩ := hl k (by omega)
    simp only [isB_i, isK_i, isP_i, isTup_i, isInt_i, isSl_i, isPtr_i, isCs_i, isStr_i, isFn_i, isIf_i, rd_i, br_t, br_f, orO_s, orO_n, gd_t, bv_add, bv_sub, bv_mul, bv_eql, bv_neq, bv_lss, bv_leq, bv_gtr, bv_geq, bv_quo, bv_rem, bv_shl, bv_shr, bv_seq, bv_sne, bv_ptr, bv_if, bv_map, bv_nf, bv_bool, bv_sl, bv_fn, uv_not, uv_neg, eqV, nilV, nc_ptr, nc_fn, nc_if, Option.map_some, toN, Nat.mul_one, implies_true, true_and, and_true, and_self]
    refine ⟨by omega, rd_of (hF.cells id hc) ?_⟩
    have hO := hO.re (Nat.le_refl w9.heap.size)
    refine allocC_of fun w18 hb18 hs18 hf18 => ?_
    refine rd_of (v := ()) rfl ?_
    refine stC_all hb18 rfl (by simp [Value.oneCell']) fun w19 hb19 hf19 => ?_
    have hO19 := (hO.keep hf18 (fun _ _ y => y.elim)).keep hf19 (fun i _ y => y)
    have hF19 : Fm none' W w19 := (hF.trans hf18).trans' hf19 (by rintro i hi rfl; have := hF.size; omega)
    have hu' : ∀ q ∈ s.used.map (·.1), q ≤ 65536 ∨ q < 1000000 + ((k + 1 : Nat) : Int) := fun q hq => by have := hu q hq; omega
    refine rd_of (v := .int .i64 (K k)) (cellOf hb19 rfl) ?_
    simp only [isB_i, isK_i, isP_i, isTup_i, isInt_i, isSl_i, isPtr_i, isCs_i, isStr_i, isFn_i, isIf_i, rd_i, br_t, br_f, orO_s, orO_n, gd_t, bv_add, bv_sub, bv_mul, bv_eql, bv_neq, bv_lss, bv_leq, bv_gtr, bv_geq, bv_quo, bv_rem, bv_shl, bv_shr, bv_seq, bv_sne, bv_ptr, bv_if, bv_map, bv_nf, bv_bool, bv_sl, bv_fn, uv_not, uv_neg, eqV, nilV, nc_ptr, nc_fn, nc_if, Option.map_some, toN, Nat.mul_one, implies_true, true_and, and_true, and_self]
    refine br_dec (fun _ => ⟨s, _, hO19, by omega, hu', hF19⟩) (fun _ => ?_)
    refine rd_of (v := .int .i64 (K k)) (cellOf hb19 rfl) ?_
    simp only [isB_i, isK_i, isP_i, isTup_i, isInt_i, isSl_i, isPtr_i, isCs_i, isStr_i, isFn_i, isIf_i, rd_i, br_t, br_f, orO_s, orO_n, gd_t, bv_add, bv_sub, bv_mul, bv_eql, bv_neq, bv_lss, bv_leq, bv_gtr, bv_geq, bv_quo, bv_rem, bv_shl, bv_shr, bv_seq, bv_sne, bv_ptr, bv_if, bv_map, bv_nf, bv_bool, bv_sl, bv_fn, uv_not, uv_neg, eqV, nilV, nc_ptr, nc_fn, nc_if, Option.map_some, toN, Nat.mul_one, implies_true, true_and, and_true, and_self]
    refine br_dec (fun _ => ⟨s, _, hO19, by omega, hu', hF19⟩) (fun _ => ?_)
    refine rd_of (v := .int .i64 (D k)) (cellOf hb19 rfl) ?_
    simp only [isB_i, isK_i, isP_i, isTup_i, isInt_i, isSl_i, isPtr_i, isCs_i, isStr_i, isFn_i, isIf_i, rd_i, br_t, br_f, orO_s, orO_n, gd_t, bv_add, bv_sub, bv_mul, bv_eql, bv_neq, bv_lss, bv_leq, bv_gtr, bv_geq, bv_quo, bv_rem, bv_shl, bv_shr, bv_seq, bv_sne, bv_ptr, bv_if, bv_map, bv_nf, bv_bool, bv_sl, bv_fn, uv_not, uv_neg, eqV, nilV, nc_ptr, nc_fn, nc_if, Option.map_some, toN, Nat.mul_one, implies_true, true_and, and_true, and_self]
    obtain ⟨hd1, hd2⟩ : 0 ≤ andI .i64 (D k) 65535 ∧ andI .i64 (D k) 65535 ≤ 65535 := andI_le (D k) 65535 (by omega)
    rw [w64 (by omega)]
    obtain ⟨d, hd⟩ : ∃ d, d = 1 + andI .i64 (D k) 65535 := ⟨_, rfl⟩
    rw [← hd]
    refine stC_one hb19 (by simp) rfl fun w26 hb26 hf26 => ?_
    have hO26 := hO19.keep hf26 (fun i _ y => y)
    have hF26 : Fm none' W w26 := hF19.trans' hf26 (by rintro i hi rfl; have := hF.size; omega)
    have hx26 := lt_of_blk hb26
    refine rd_of (v := .int .i64 (C k)) (cellOf hb26 rfl) ?_
    simp only [isB_i, isK_i, isP_i, isTup_i, isInt_i, isSl_i, isPtr_i, isCs_i, isStr_i, isFn_i, isIf_i, rd_i, br_t, br_f, orO_s, orO_n, gd_t, bv_add, bv_sub, bv_mul, bv_eql, bv_neq, bv_lss, bv_leq, bv_gtr, bv_geq, bv_quo, bv_rem, bv_shl, bv_shr, bv_seq, bv_sne, bv_ptr, bv_if, bv_map, bv_nf, bv_bool, bv_sl, bv_fn, uv_not, uv_neg, eqV, nilV, nc_ptr, nc_fn, nc_if, Option.map_some, toN, Nat.mul_one, implies_true, true_and, and_true, and_self]
    refine rd_of (v := .int .u16 (Pv k)) (cellOf hb26 rfl) ?_
    simp only [isB_i, isK_i, isP_i, isTup_i, isInt_i, isSl_i, isPtr_i, isCs_i, isStr_i, isFn_i, isIf_i, rd_i, br_t, br_f, orO_s, orO_n, gd_t, bv_add, bv_sub, bv_mul, bv_eql, bv_neq, bv_lss, bv_leq, bv_gtr, bv_geq, bv_quo, bv_rem, bv_shl, bv_shr, bv_seq, bv_sne, bv_ptr, bv_if, bv_map, bv_nf, bv_bool, bv_sl, bv_fn, uv_not, uv_neg, eqV, nilV, nc_ptr, nc_fn, nc_if, Option.map_some, toN, Nat.mul_one, implies_true, true_and, and_true, and_self]
    refine rd_of (v := .int .i64 d) (cellOf hb26 rfl) ?_
    simp only [isB_i, isK_i, isP_i, isTup_i, isInt_i, isSl_i, isPtr_i, isCs_i, isStr_i, isFn_i, isIf_i, rd_i, br_t, br_f, orO_s, orO_n, gd_t, bv_add, bv_sub, bv_mul, bv_eql, bv_neq, bv_lss, bv_leq, bv_gtr, bv_geq, bv_quo, bv_rem, bv_shl, bv_shr, bv_seq, bv_sne, bv_ptr, bv_if, bv_map, bv_nf, bv_bool, bv_sl, bv_fn, uv_not, uv_neg, eqV, nilV, nc_ptr, nc_fn, nc_if, Option.map_some, toN, Nat.mul_one, implies_true, true_and, and_true, and_self]
    refine (one_bind (C k) (Pv k) d hO26 hx26).mono ?_
    rintro _ w34 ⟨rfl, hO34, hf34⟩
    have hb34 := hf34.keep hb26 (fun y => y.2 rfl)
    have hF34 := One.fm hF26 hf34
    have hx34 := lt_of_blk hb34
    simp only [isB_i, isK_i, isP_i, isTup_i, isInt_i, isSl_i, isPtr_i, isCs_i, isStr_i, isFn_i, isIf_i, rd_i, br_t, br_f, orO_s, orO_n, gd_t, bv_add, bv_sub, bv_mul, bv_eql, bv_neq, bv_lss, bv_leq, bv_gtr, bv_geq, bv_quo, bv_rem, bv_shl, bv_shr, bv_seq, bv_sne, bv_ptr, bv_if, bv_map, bv_nf, bv_bool, bv_sl, bv_fn, uv_not, uv_neg, eqV, nilV, nc_ptr, nc_fn, nc_if, Option.map_some, toN, Nat.mul_one, implies_true, true_and, and_true, and_self]
    refine rd_of (v := .int .i64 (C k)) (cellOf hb34 rfl) ?_
    simp only [isB_i, isK_i, isP_i, isTup_i, isInt_i, isSl_i, isPtr_i, isCs_i, isStr_i, isFn_i, isIf_i, rd_i, br_t, br_f, orO_s, orO_n, gd_t, bv_add, bv_sub, bv_mul, bv_eql, bv_neq, bv_lss, bv_leq, bv_gtr, bv_geq, bv_quo, bv_rem, bv_shl, bv_shr, bv_seq, bv_sne, bv_ptr, bv_if, bv_map, bv_nf, bv_bool, bv_sl, bv_fn, uv_not, uv_neg, eqV, nilV, nc_ptr, nc_fn, nc_if, Option.map_some, toN, Nat.mul_one, implies_true, true_and, and_true, and_self]
    refine rd_of (v := .int .u16 (Pv k)) (cellOf hb34 rfl) ?_
    simp only [isB_i, isK_i, isP_i, isTup_i, isInt_i, isSl_i, isPtr_i, isCs_i, isStr_i, isFn_i, isIf_i, rd_i, br_t, br_f, orO_s, orO_n, gd_t, bv_add, bv_sub, bv_mul, bv_eql, bv_neq, bv_lss, bv_leq, bv_gtr, bv_geq, bv_quo, bv_rem, bv_shl, bv_shr, bv_seq, bv_sne, bv_ptr, bv_if, bv_map, bv_nf, bv_bool, bv_sl, bv_fn, uv_not, uv_neg, eqV, nilV, nc_ptr, nc_fn, nc_if, Option.map_some, toN, Nat.mul_one, implies_true, true_and, and_true, and_self]
    refine (one_ask (C k) (Pv k) hO34).mono ?_
    rintro _ w41 ⟨rfl, rfl⟩
    simp only [isB_i, isK_i, isP_i, isTup_i, isInt_i, isSl_i, isPtr_i, isCs_i, isStr_i, isFn_i, isIf_i, rd_i, br_t, br_f, orO_s, orO_n, gd_t, bv_add, bv_sub, bv_mul, bv_eql, bv_neq, bv_lss, bv_leq, bv_gtr, bv_geq, bv_quo, bv_rem, bv_shl, bv_shr, bv_seq, bv_sne, bv_ptr, bv_if, bv_map, bv_nf, bv_bool, bv_sl, bv_fn, uv_not, uv_neg, eqV, nilV, nc_ptr, nc_fn, nc_if, Option.map_some, toN, Nat.mul_one, implies_true, true_and, and_true, and_self, List.getElem?_cons_zero, List.getElem?_cons_succ]
    have hl1 := lenS_bind (s := s) (C k) (Pv k) d
    refine (one_len hO34 (by omega)).mono ?_
    rintro _ w49 ⟨rfl, hO49, hf49⟩
    have hb49 := hf49.keep hb34 id
    have hF49 := hF34.trans hf49
    have hx49 := lt_of_blk hb49
    simp only [isB_i, isK_i, isP_i, isTup_i, isInt_i, isSl_i, isPtr_i, isCs_i, isStr_i, isFn_i, isIf_i, rd_i, br_t, br_f, orO_s, orO_n, gd_t, bv_add, bv_sub, bv_mul, bv_eql, bv_neq, bv_lss, bv_leq, bv_gtr, bv_geq, bv_quo, bv_rem, bv_shl, bv_shr, bv_seq, bv_sne, bv_ptr, bv_if, bv_map, bv_nf, bv_bool, bv_sl, bv_fn, uv_not, uv_neg, eqV, nilV, nc_ptr, nc_fn, nc_if, Option.map_some, toN, Nat.mul_one, implies_true, true_and, and_true, and_self]
    refine rd_of (v := .int .i64 (C k)) (cellOf hb49 rfl) ?_
    simp only [isB_i, isK_i, isP_i, isTup_i, isInt_i, isSl_i, isPtr_i, isCs_i, isStr_i, isFn_i, isIf_i, rd_i, br_t, br_f, orO_s, orO_n, gd_t, bv_add, bv_sub, bv_mul, bv_eql, bv_neq, bv_lss, bv_leq, bv_gtr, bv_geq, bv_quo, bv_rem, bv_shl, bv_shr, bv_seq, bv_sne, bv_ptr, bv_if, bv_map, bv_nf, bv_bool, bv_sl, bv_fn, uv_not, uv_neg, eqV, nilV, nc_ptr, nc_fn, nc_if, Option.map_some, toN, Nat.mul_one, implies_true, true_and, and_true, and_self]
    refine rd_of (v := .int .u16 (Pv k)) (cellOf hb49 rfl) ?_
    simp only [isB_i, isK_i, isP_i, isTup_i, isInt_i, isSl_i, isPtr_i, isCs_i, isStr_i, isFn_i, isIf_i, rd_i, br_t, br_f, orO_s, orO_n, gd_t, bv_add, bv_sub, bv_mul, bv_eql, bv_neq, bv_lss, bv_leq, bv_gtr, bv_geq, bv_quo, bv_rem, bv_shl, bv_shr, bv_seq, bv_sne, bv_ptr, bv_if, bv_map, bv_nf, bv_bool, bv_sl, bv_fn, uv_not, uv_neg, eqV, nilV, nc_ptr, nc_fn, nc_if, Option.map_some, toN, Nat.mul_one, implies_true, true_and, and_true, and_self]
    rw [w64 (by omega)]
    refine (one_bind (C k) (Pv k) (1000000 + k) hO49 hx49).mono ?_
    rintro _ w57 ⟨rfl, hO57, hf57⟩
    have hb57 := hf57.keep hb49 (fun y => y.2 rfl)
    have hF57 := One.fm hF49 hf57
    have hx57 := lt_of_blk hb57
    simp only [isB_i, isK_i, isP_i, isTup_i, isInt_i, isSl_i, isPtr_i, isCs_i, isStr_i, isFn_i, isIf_i, rd_i, br_t, br_f, orO_s, orO_n, gd_t, bv_add, bv_sub, bv_mul, bv_eql, bv_neq, bv_lss, bv_leq, bv_gtr, bv_geq, bv_quo, bv_rem, bv_shl, bv_shr, bv_seq, bv_sne, bv_ptr, bv_if, bv_map, bv_nf, bv_bool, bv_sl, bv_fn, uv_not, uv_neg, eqV, nilV, nc_ptr, nc_fn, nc_if, Option.map_some, toN, Nat.mul_one, implies_true, true_and, and_true, and_self]
    refine rd_of (v := .int .i64 (C k)) (cellOf hb57 rfl) ?_
    simp only [isB_i, isK_i, isP_i, isTup_i, isInt_i, isSl_i, isPtr_i, isCs_i, isStr_i, isFn_i, isIf_i, rd_i, br_t, br_f, orO_s, orO_n, gd_t, bv_add, bv_sub, bv_mul, bv_eql, bv_neq, bv_lss, bv_leq, bv_gtr, bv_geq, bv_quo, bv_rem, bv_shl, bv_shr, bv_seq, bv_sne, bv_ptr, bv_if, bv_map, bv_nf, bv_bool, bv_sl, bv_fn, uv_not, uv_neg, eqV, nilV, nc_ptr, nc_fn, nc_if, Option.map_some, toN, Nat.mul_one, implies_true, true_and, and_true, and_self]
    refine rd_of (v := .int .u16 (Pv k)) (cellOf hb57 rfl) ?_
    simp only [isB_i, isK_i, isP_i, isTup_i, isInt_i, isSl_i, isPtr_i, isCs_i, isStr_i, isFn_i, isIf_i, rd_i, br_t, br_f, orO_s, orO_n, gd_t, bv_add, bv_sub, bv_mul, bv_eql, bv_neq, bv_lss, bv_leq, bv_gtr, bv_geq, bv_quo, bv_rem, bv_shl, bv_shr, bv_seq, bv_sne, bv_ptr, bv_if, bv_map, bv_nf, bv_bool, bv_sl, bv_fn, uv_not, uv_neg, eqV, nilV, nc_ptr, nc_fn, nc_if, Option.map_some, toN, Nat.mul_one, implies_true, true_and, and_true, and_self]
    refine (one_deny (C k) (Pv k) hO57 hx57).mono ?_
    rintro _ w64' ⟨rfl, hO64, hf64⟩
    have hb64 := hf64.keep hb57 (fun y => y.2 rfl)
    have hF64 := One.fm hF57 hf64
    have hx64 := lt_of_blk hb64
    simp only [isB_i, isK_i, isP_i, isTup_i, isInt_i, isSl_i, isPtr_i, isCs_i, isStr_i, isFn_i, isIf_i, rd_i, br_t, br_f, orO_s, orO_n, gd_t, bv_add, bv_sub, bv_mul, bv_eql, bv_neq, bv_lss, bv_leq, bv_gtr, bv_geq, bv_quo, bv_rem, bv_shl, bv_shr, bv_seq, bv_sne, bv_ptr, bv_if, bv_map, bv_nf, bv_bool, bv_sl, bv_fn, uv_not, uv_neg, eqV, nilV, nc_ptr, nc_fn, nc_if, Option.map_some, toN, Nat.mul_one, implies_true, true_and, and_true, and_self]
    refine rd_of (v := .int .i64 (C k)) (cellOf hb64 rfl) ?_
    simp only [isB_i, isK_i, isP_i, isTup_i, isInt_i, isSl_i, isPtr_i, isCs_i, isStr_i, isFn_i, isIf_i, rd_i, br_t, br_f, orO_s, orO_n, gd_t, bv_add, bv_sub, bv_mul, bv_eql, bv_neq, bv_lss, bv_leq, bv_gtr, bv_geq, bv_quo, bv_rem, bv_shl, bv_shr, bv_seq, bv_sne, bv_ptr, bv_if, bv_map, bv_nf, bv_bool, bv_sl, bv_fn, uv_not, uv_neg, eqV, nilV, nc_ptr, nc_fn, nc_if, Option.map_some, toN, Nat.mul_one, implies_true, true_and, and_true, and_self]
    refine rd_of (v := .int .u16 (Pv k)) (cellOf hb64 rfl) ?_
    simp only [isB_i, isK_i, isP_i, isTup_i, isInt_i, isSl_i, isPtr_i, isCs_i, isStr_i, isFn_i, isIf_i, rd_i, br_t, br_f, orO_s, orO_n, gd_t, bv_add, bv_sub, bv_mul, bv_eql, bv_neq, bv_lss, bv_leq, bv_gtr, bv_geq, bv_quo, bv_rem, bv_shl, bv_shr, bv_seq, bv_sne, bv_ptr, bv_if, bv_map, bv_nf, bv_bool, bv_sl, bv_fn, uv_not, uv_neg, eqV, nilV, nc_ptr, nc_fn, nc_if, Option.map_some, toN, Nat.mul_one, implies_true, true_and, and_true, and_self]
    refine (one_ask (C k) (Pv k) hO64).mono ?_
    rintro _ w71 ⟨rfl, rfl⟩
    simp only [isB_i, isK_i, isP_i, isTup_i, isInt_i, isSl_i, isPtr_i, isCs_i, isStr_i, isFn_i, isIf_i, rd_i, br_t, br_f, orO_s, orO_n, gd_t, bv_add, bv_sub, bv_mul, bv_eql, bv_neq, bv_lss, bv_leq, bv_gtr, bv_geq, bv_quo, bv_rem, bv_shl, bv_shr, bv_seq, bv_sne, bv_ptr, bv_if, bv_map, bv_nf, bv_bool, bv_sl, bv_fn, uv_not, uv_neg, eqV, nilV, nc_ptr, nc_fn, nc_if, Option.map_some, toN, Nat.mul_one, implies_true, true_and, and_true, and_self, List.getElem?_cons_zero, List.getElem?_cons_succ]
    have hu1 : ∀ q ∈ (bindS s (C k) (Pv k) d).2.used.map (·.1), q ≤ 65536 ∨ q < 1000000 + (k : Int) := fun q hq => by
      rcases bindS_used hq with e | e
      · omega
      · exact hu q e
    have hl2 := lenS_bind (s := (bindS s (C k) (Pv k) d).2) (C k) (Pv k) (1000000 + k)
    have hl3 := lenS_deny (s := (bindS (bindS s (C k) (Pv k) d).2 (C k) (Pv k) (1000000 + k)).2) (C k) (Pv k)
    have hu3 : ∀ q ∈ (denyS (bindS (bindS s (C k) (Pv k) d).2 (C k) (Pv k) (1000000 + k)).2 (C k) (Pv k)).2.used.map (·.1), q ≤ 65536 ∨ q < 1000000 + ((k + 1 : Nat) : Int) := fun q hq => by
      rcases bindS_used (denyS_used hq) with e | e
      · omega
      · have := hu1 q e; omega
    refine br_dec (fun he => ?_) (fun he => ?_)
    · obtain ⟨hp, h6, hd3, _⟩ := bindS_ok he
      have ha : askS (bindS s (C k) (Pv k) d).2 (C k) (Pv k) = (d, 0) := by rw [hp]; exact ask_put _ _ _ _
      have hbn := bindS_again (s := (bindS s (C k) (Pv k) d).2) (who := C k) (p := Pv k) (nid := 1000000 + k) (by omega) (fun q hq => by have := hu1 q hq; omega) (by rw [ha])
      have hdn := denyS_again (s := (bindS s (C k) (Pv k) d).2) (who := C k) (p := Pv k) (by rw [ha])
      rw [hbn] at hO64 hu3 ⊢
      dsimp only at hO64 hu3 ⊢
      rw [hdn] at hO64 hu3 ⊢
      dsimp only at hO64 hu3 ⊢
      rw [ha]
      refine rd_of (v := .int .i64 d) (cellOf hb64 rfl) ?_
      simp only [isB_i, isK_i, isP_i, isTup_i, isInt_i, isSl_i, isPtr_i, isCs_i, isStr_i, isFn_i, isIf_i, rd_i, br_t, br_f, orO_s, orO_n, gd_t, bv_add, bv_sub, bv_mul, bv_eql, bv_neq, bv_lss, bv_leq, bv_gtr, bv_geq, bv_quo, bv_rem, bv_shl, bv_shr, bv_seq, bv_sne, bv_ptr, bv_if, bv_map, bv_nf, bv_bool, bv_sl, bv_fn, uv_not, uv_neg, eqV, nilV, nc_ptr, nc_fn, nc_if, Option.map_some, toN, Nat.mul_one, implies_true, true_and, and_true, and_self, decide_true, Bool.not_true]
      refine (one_len hO64 (by omega)).mono ?_
      rintro _ w81 ⟨rfl, hO81, hf81⟩
      simp only [isB_i, isK_i, isP_i, isTup_i, isInt_i, isSl_i, isPtr_i, isCs_i, isStr_i, isFn_i, isIf_i, rd_i, br_t, br_f, orO_s, orO_n, gd_t, bv_add, bv_sub, bv_mul, bv_eql, bv_neq, bv_lss, bv_leq, bv_gtr, bv_geq, bv_quo, bv_rem, bv_shl, bv_shr, bv_seq, bv_sne, bv_ptr, bv_if, bv_map, bv_nf, bv_bool, bv_sl, bv_fn, uv_not, uv_neg, eqV, nilV, nc_ptr, nc_fn, nc_if, Option.map_some, toN, Nat.mul_one, implies_true, true_and, and_true, and_self, decide_true, Bool.not_true]
      exact ⟨_, _, hO81, by omega, hu3, hF64.trans hf81⟩
    · have hs1 := congrArg lenS (bindS_not he)
      refine ⟨_, _, hO64, by omega, hu3, hF64⟩
  · rw [w64 (by omega)]
    refine ⟨⟨k + 1, x', s', by omega, rfl, hO', hl', hu', hF'⟩, ?_⟩
    show 100 - ((k : Int) + 1).toNat < 100 - (k : Int).toNat; omega
end Go.Proofs.Ytfdbojnikoonbaa
