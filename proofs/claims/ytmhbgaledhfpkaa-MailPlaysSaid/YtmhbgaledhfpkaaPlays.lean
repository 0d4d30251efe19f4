/- MailPlays comes to true and turns nothing that was there.  Conditions: the argument's cells hold numbers. -/
import Derived.Test.YtmhbgaledhfpkaaApart
import Derived.Test.YtmhbgaledhfpkaaC2
namespace Go.Proofs.Ytmhbgaledhfpkaa
set_option linter.unusedSimpArgs false
set_option linter.unusedVariables false
open Go Go.RowKit Go.Conc VC

theorem Twin.more {W w : World} {A CA D cap k : Nat} {buf : List Value} {lost : Int} (h : Twin W w A CA D cap k buf lost) : Twin W w A CA D cap (k + 1) buf lost :=
  ⟨h.box, h.ref, h.num, Nat.le_succ_of_le h.len, h.l0, by have := h.lk; omega, h.fm, h.a⟩
theorem Twin.le {W w : World} {A CA D cap k k' : Nat} {buf : List Value} {lost : Int} (h : Twin W w A CA D cap k buf lost) (hk : k ≤ k') : Twin W w A CA D cap k' buf lost :=
  ⟨h.box, h.ref, h.num, Nat.le_trans h.len hk, h.l0, by have := h.lk; omega, h.fm, h.a⟩

set_option maxHeartbeats 1000000 in
set_option maxRecDepth 20000 in
theorem plays_c (a : Int) (bp : Option Addr) (bn bc : Nat) (kd nn : Nat → Int) (W : World) (hl : ∀ i, i < bn → ∃ ad, bp = some ad ∧ W.cell? (ad.add (i * 2)) = some (.int .i64 (kd i)) ∧ W.cell? ((ad.add (i * 2)).add 1) = some (.int .i64 (nn i))) (hbn : bn ≤ 140737488351232) :
    callV Try.prog 5 [.int .i64 a, .slice bp bn bc] W fun v w' => v = .bool true ∧ Fm none' W w' := by
  refine vc5 a bp bn bc W _ ?_
  refine (shown_c W).mono ?_
  rintro _ w1 ⟨rfl, hf1⟩
  refine (new13_c a w1).mono ?_
  rintro _ w3 ⟨A, CA, rfl, hA, hCA, hbA, hf3⟩
  refine (new14_c a w3 W.heap.size).mono ?_
  rintro _ w5 ⟨D, rfl, hD, hr, hf5⟩
  have hbA := hbA.keep hf5 id id
  have hF : Fm none' W w5 := (hf1.trans hf3).trans hf5
  have s1 := hf1.size; have s3 := hf3.size; have s5 := hf5.size
  obtain ⟨cap, hcap⟩ : ∃ c, c = room a := ⟨_, rfl⟩
  rw [← hcap] at hbA hr
  simp only [isB_i, isTup_i, isInt_i, isSl_i, isPtr_i, isCs_i, isStr_i, isFn_i, isIf_i, rd_i, br_t, br_f, orO_s, orO_n, gd_t, bv_add, bv_sub, bv_mul, bv_eql, bv_neq, bv_lss, bv_leq, bv_gtr, bv_geq, bv_quo, bv_rem, bv_shl, bv_shr, bv_seq, bv_sne, bv_ptr, bv_if, bv_map, bv_nf, bv_bool, bv_sl, bv_fn, uv_not, uv_neg, eqV, nilV, nc_ptr, nc_fn, nc_if, Option.map_some, toN, Nat.mul_one, implies_true, true_and, and_true, and_self, row32, Option.isNone_some]
  refine ⟨fun _ w' => ∃ buf lost, Twin W w' A CA D cap 300 buf lost, ?_, ?_⟩
  · refine ⟨fun u w' => ∃ k : Nat, k ≤ bn ∧ k ≤ 300 ∧ u 8 = .int .i64 k ∧ ∃ buf lost, Twin W w' A CA D cap k buf lost, fun u _ => 300 - (intOf (u 8)).toNat, ?_, ?_⟩
    · exact ⟨0, by omega, by omega, rfl, [], 0, hbA, hr, fun x hx => by simp at hx, Nat.le_refl _, by omega, by omega, hF, by omega, by omega, by omega⟩
    rintro u w11 ⟨k, hkn, hk1, h8, buf, lost, ht⟩
    change u 8 = .int .i64 k at h8
    have hf := ht.fm
    simp only [h8, isB_i, isTup_i, isInt_i, isSl_i, isPtr_i, isCs_i, isStr_i, isFn_i, isIf_i, rd_i, br_t, br_f, orO_s, orO_n, gd_t, bv_add, bv_sub, bv_mul, bv_eql, bv_neq, bv_lss, bv_leq, bv_gtr, bv_geq, bv_quo, bv_rem, bv_shl, bv_shr, bv_seq, bv_sne, bv_ptr, bv_if, bv_map, bv_nf, bv_bool, bv_sl, bv_fn, uv_not, uv_neg, eqV, nilV, nc_ptr, nc_fn, nc_if, Option.map_some, toN, Nat.mul_one, implies_true, true_and, and_true, and_self]
    refine br_dec (fun hkb => ?_) (fun hkb => ⟨buf, lost, ht.le hk1⟩)
    refine br_dec (fun hk2 => ?_) (fun hk2 => ⟨buf, lost, ht.le hk1⟩)
    obtain ⟨ad, rfl, hck, hcn'⟩ := hl k (by omega)
    obtain ⟨i0, hi0⟩ := ht.num.head
    have htd : Twin W w11.drew A CA D cap k buf lost := ht.keep (Fm.drew _) ⟨id, id, id⟩ (fun _ _ => id) (fun _ h => h.elim)
    refine ⟨fun u w' => u 9 = .bool true ∧ ∃ buf lost, Twin W w' A CA D cap (k + 1) buf lost, ?_, ?_⟩
    · refine rd_of (v := ad) rfl ⟨by omega, rd_of (hf.cell hck id) ?_⟩
      simp only [isB_i, isTup_i, isInt_i, isSl_i, isPtr_i, isCs_i, isStr_i, isFn_i, isIf_i, rd_i, br_t, br_f, orO_s, orO_n, gd_t, bv_add, bv_sub, bv_mul, bv_eql, bv_neq, bv_lss, bv_leq, bv_gtr, bv_geq, bv_quo, bv_rem, bv_shl, bv_shr, bv_seq, bv_sne, bv_ptr, bv_if, bv_map, bv_nf, bv_bool, bv_sl, bv_fn, uv_not, uv_neg, eqV, nilV, nc_ptr, nc_fn, nc_if, Option.map_some, toN, Nat.mul_one, implies_true, true_and, and_true, and_self]
      refine br_dec (fun hk => ?_) (fun hk => ?_)
      · refine ⟨fun w' => Fm none' W w', hf.trans (Fm.drew _), ?_⟩
        have hN : w11.drew.cell? ((ad.add (k * 2)).add 1) = some (.int .i64 (nn k)) := (hf.trans (Fm.drew _)).cell hcn' id
        refine ⟨by omega, fun _ _ => by omega, rd_of hN ⟨fun w' hw => rd_of (hw.cell hcn' id) rfl, by omega, fun _ _ => by omega, rd_of hN ⟨fun w' hw => rd_of (hw.cell hcn' id) rfl, ?_⟩⟩⟩
        refine (htd.put (by omega) (nn k)).mono ?_
        rintro _ w72 ⟨rfl, g1, G1, hc⟩
        refine ⟨G1, hc.mono ?_⟩
        rintro _ w74 ⟨rfl, g2, buf', lost', t⟩
        refine ⟨t.fm, ?_⟩
        simp only [isB_i, isTup_i, isInt_i, isSl_i, isPtr_i, isCs_i, isStr_i, isFn_i, isIf_i, rd_i, br_t, br_f, orO_s, orO_n, gd_t, bv_add, bv_sub, bv_mul, bv_eql, bv_neq, bv_lss, bv_leq, bv_gtr, bv_geq, bv_quo, bv_rem, bv_shl, bv_shr, bv_seq, bv_sne, bv_ptr, bv_if, bv_map, bv_nf, bv_bool, bv_sl, bv_fn, uv_not, uv_neg, eqV, nilV, nc_ptr, nc_fn, nc_if, Option.map_some, toN, Nat.mul_one, implies_true, true_and, and_true, and_self, row4]
        exact ⟨by simp [alist], buf', lost', t⟩
      refine br_dec (fun hk => ?_) (fun hk => ?_)
      · refine ⟨fun w' => Fm none' W w', hf.trans (Fm.drew _), ?_⟩
        have hN : w11.drew.cell? ((ad.add (k * 2)).add 1) = some (.int .i64 (nn k)) := (hf.trans (Fm.drew _)).cell hcn' id
        refine ⟨by omega, fun _ _ => by omega, rd_of hN ⟨fun w' hw => rd_of (hw.cell hcn' id) rfl, by omega, fun _ _ => by omega, rd_of hN ⟨fun w' hw => rd_of (hw.cell hcn' id) rfl, ?_⟩⟩⟩
        refine (htd.put (by omega) (nn k)).mono ?_
        rintro _ w72 ⟨rfl, g1, G1, hc⟩
        refine ⟨G1, hc.mono ?_⟩
        rintro _ w74 ⟨rfl, g2, buf', lost', t⟩
        refine ⟨t.fm, ?_⟩
        simp only [isB_i, isTup_i, isInt_i, isSl_i, isPtr_i, isCs_i, isStr_i, isFn_i, isIf_i, rd_i, br_t, br_f, orO_s, orO_n, gd_t, bv_add, bv_sub, bv_mul, bv_eql, bv_neq, bv_lss, bv_leq, bv_gtr, bv_geq, bv_quo, bv_rem, bv_shl, bv_shr, bv_seq, bv_sne, bv_ptr, bv_if, bv_map, bv_nf, bv_bool, bv_sl, bv_fn, uv_not, uv_neg, eqV, nilV, nc_ptr, nc_fn, nc_if, Option.map_some, toN, Nat.mul_one, implies_true, true_and, and_true, and_self, row4]
        exact ⟨by simp [alist], buf', lost', t⟩
      refine br_dec (fun hk => ?_) (fun hk => ?_)
      · refine ⟨fun w' => Fm none' W w', hf.trans (Fm.drew _), ?_⟩
        have hN : w11.drew.cell? ((ad.add (k * 2)).add 1) = some (.int .i64 (nn k)) := (hf.trans (Fm.drew _)).cell hcn' id
        refine ⟨by omega, fun _ _ => by omega, rd_of hN ⟨fun w' hw => rd_of (hw.cell hcn' id) rfl, by omega, fun _ _ => by omega, rd_of hN ⟨fun w' hw => rd_of (hw.cell hcn' id) rfl, ?_⟩⟩⟩
        refine (htd.put (by omega) (nn k)).mono ?_
        rintro _ w72 ⟨rfl, g1, G1, hc⟩
        refine ⟨G1, hc.mono ?_⟩
        rintro _ w74 ⟨rfl, g2, buf', lost', t⟩
        refine ⟨t.fm, ?_⟩
        simp only [isB_i, isTup_i, isInt_i, isSl_i, isPtr_i, isCs_i, isStr_i, isFn_i, isIf_i, rd_i, br_t, br_f, orO_s, orO_n, gd_t, bv_add, bv_sub, bv_mul, bv_eql, bv_neq, bv_lss, bv_leq, bv_gtr, bv_geq, bv_quo, bv_rem, bv_shl, bv_shr, bv_seq, bv_sne, bv_ptr, bv_if, bv_map, bv_nf, bv_bool, bv_sl, bv_fn, uv_not, uv_neg, eqV, nilV, nc_ptr, nc_fn, nc_if, Option.map_some, toN, Nat.mul_one, implies_true, true_and, and_true, and_self, row4]
        exact ⟨by simp [alist], buf', lost', t⟩
      refine br_dec (fun hk => ?_) (fun hk => ?_)
      · refine (ht.take (by omega)).mono ?_
        rintro _ w82 ⟨rfl, g1, -, hc⟩
        rw [hi0] at hc ⊢
        simp only [isB_i, isTup_i, isInt_i, isSl_i, isPtr_i, isCs_i, isStr_i, isFn_i, isIf_i, rd_i, br_t, br_f, orO_s, orO_n, gd_t, bv_add, bv_sub, bv_mul, bv_eql, bv_neq, bv_lss, bv_leq, bv_gtr, bv_geq, bv_quo, bv_rem, bv_shl, bv_shr, bv_seq, bv_sne, bv_ptr, bv_if, bv_map, bv_nf, bv_bool, bv_sl, bv_fn, uv_not, uv_neg, eqV, nilV, nc_ptr, nc_fn, nc_if, Option.map_some, toN, Nat.mul_one, implies_true, true_and, and_true, and_self, List.getElem?_cons_zero, List.getElem?_cons_succ]
        refine hc.mono ?_
        rintro _ w88 ⟨rfl, g2, buf', lost', t⟩
        simp only [isB_i, isTup_i, isInt_i, isSl_i, isPtr_i, isCs_i, isStr_i, isFn_i, isIf_i, rd_i, br_t, br_f, orO_s, orO_n, gd_t, bv_add, bv_sub, bv_mul, bv_eql, bv_neq, bv_lss, bv_leq, bv_gtr, bv_geq, bv_quo, bv_rem, bv_shl, bv_shr, bv_seq, bv_sne, bv_ptr, bv_if, bv_map, bv_nf, bv_bool, bv_sl, bv_fn, uv_not, uv_neg, eqV, nilV, nc_ptr, nc_fn, nc_if, Option.map_some, toN, Nat.mul_one, implies_true, true_and, and_true, and_self, List.getElem?_cons_zero, List.getElem?_cons_succ, row4]
        refine br_dec (fun _ => ?_) (fun h => by simp at h)
        exact ⟨by simp [alist], buf', lost', t⟩
      refine br_dec (fun hk => ?_) (fun hk => ?_)
      · refine (ht.take (by omega)).mono ?_
        rintro _ w82 ⟨rfl, g1, -, hc⟩
        rw [hi0] at hc ⊢
        simp only [isB_i, isTup_i, isInt_i, isSl_i, isPtr_i, isCs_i, isStr_i, isFn_i, isIf_i, rd_i, br_t, br_f, orO_s, orO_n, gd_t, bv_add, bv_sub, bv_mul, bv_eql, bv_neq, bv_lss, bv_leq, bv_gtr, bv_geq, bv_quo, bv_rem, bv_shl, bv_shr, bv_seq, bv_sne, bv_ptr, bv_if, bv_map, bv_nf, bv_bool, bv_sl, bv_fn, uv_not, uv_neg, eqV, nilV, nc_ptr, nc_fn, nc_if, Option.map_some, toN, Nat.mul_one, implies_true, true_and, and_true, and_self, List.getElem?_cons_zero, List.getElem?_cons_succ]
        refine hc.mono ?_
        rintro _ w88 ⟨rfl, g2, buf', lost', t⟩
        simp only [isB_i, isTup_i, isInt_i, isSl_i, isPtr_i, isCs_i, isStr_i, isFn_i, isIf_i, rd_i, br_t, br_f, orO_s, orO_n, gd_t, bv_add, bv_sub, bv_mul, bv_eql, bv_neq, bv_lss, bv_leq, bv_gtr, bv_geq, bv_quo, bv_rem, bv_shl, bv_shr, bv_seq, bv_sne, bv_ptr, bv_if, bv_map, bv_nf, bv_bool, bv_sl, bv_fn, uv_not, uv_neg, eqV, nilV, nc_ptr, nc_fn, nc_if, Option.map_some, toN, Nat.mul_one, implies_true, true_and, and_true, and_self, List.getElem?_cons_zero, List.getElem?_cons_succ, row4]
        refine br_dec (fun _ => ?_) (fun h => by simp at h)
        exact ⟨by simp [alist], buf', lost', t⟩
      refine br_dec (fun hk => ?_) (fun hk => ?_)
      · refine (ht.drain (by omega)).mono ?_
        rintro v217 w218 ⟨-, -, -, -, -, hc⟩
        refine hc.mono ?_
        rintro v219 w220 ⟨o1, o2, -, t⟩
        have := ht.len
        refine (same20_c o1 o2 ht.num (by omega)).mono ?_
        rintro _ w222 ⟨rfl, hf2⟩
        have t2 := t.keep hf2 ⟨id, id, id⟩ (fun _ _ => id) (fun _ h => h.elim)
        exact ⟨by simp [alist], [], lost, t2.more⟩
      exact ⟨by simp [alist], buf, lost, ht.more⟩
    · rintro u2 w225 ⟨h9, buf', lost', t⟩
      change u2 9 = .bool true at h9
      have t := t.keep (Fm.drew _) ⟨id, id, id⟩ (fun _ _ => id) (fun _ h => h.elim)
      obtain ⟨s, hD2, ho⟩ := t.ref
      obtain ⟨q, qc, rfl, -⟩ := own_read ho
      refine ⟨fun w' => w'.cell? ⟨D, 1, none⟩ = some (.slice q buf'.length qc) ∧ w'.cell? ⟨D, 2, none⟩ = some (.int .i64 lost'), ⟨cellOf hD2 rfl, cellOf hD2 rfl⟩, ?_⟩
      simp only [h9, addr_add, Nat.zero_add, isB_i, isTup_i, isInt_i, isSl_i, isPtr_i, isCs_i, isStr_i, isFn_i, isIf_i, rd_i, br_t, br_f, orO_s, orO_n, gd_t, bv_add, bv_sub, bv_mul, bv_eql, bv_neq, bv_lss, bv_leq, bv_gtr, bv_geq, bv_quo, bv_rem, bv_shl, bv_shr, bv_seq, bv_sne, bv_ptr, bv_if, bv_map, bv_nf, bv_bool, bv_sl, bv_fn, uv_not, uv_neg, eqV, nilV, nc_ptr, nc_fn, nc_if, Option.map_some, toN, Nat.mul_one, implies_true, true_and, and_true, and_self, Bool.not_true]
      refine rd_of (v := .slice q buf'.length qc) (cellOf hD2 rfl) ⟨fun w' hw => rd_of hw.1 rfl, ?_⟩
      simp only [isB_i, isTup_i, isInt_i, isSl_i, isPtr_i, isCs_i, isStr_i, isFn_i, isIf_i, rd_i, br_t, br_f, orO_s, orO_n, gd_t, bv_add, bv_sub, bv_mul, bv_eql, bv_neq, bv_lss, bv_leq, bv_gtr, bv_geq, bv_quo, bv_rem, bv_shl, bv_shr, bv_seq, bv_sne, bv_ptr, bv_if, bv_map, bv_nf, bv_bool, bv_sl, bv_fn, uv_not, uv_neg, eqV, nilV, nc_ptr, nc_fn, nc_if, Option.map_some, toN, Nat.mul_one, implies_true, true_and, and_true, and_self]
      refine (len23_c t.box).mono ?_
      rintro _ _ ⟨rfl, rfl⟩
      refine ⟨⟨cellOf hD2 rfl, cellOf hD2 rfl⟩, ?_⟩
      simp only [isB_i, isTup_i, isInt_i, isSl_i, isPtr_i, isCs_i, isStr_i, isFn_i, isIf_i, rd_i, br_t, br_f, orO_s, orO_n, gd_t, bv_add, bv_sub, bv_mul, bv_eql, bv_neq, bv_lss, bv_leq, bv_gtr, bv_geq, bv_quo, bv_rem, bv_shl, bv_shr, bv_seq, bv_sne, bv_ptr, bv_if, bv_map, bv_nf, bv_bool, bv_sl, bv_fn, uv_not, uv_neg, eqV, nilV, nc_ptr, nc_fn, nc_if, Option.map_some, toN, Nat.mul_one, implies_true, true_and, and_true, and_self]
      refine br_ndec (fun h => by simp at h) (fun _ => ?_)
      refine rd_of (v := .int .i64 lost') (cellOf hD2 rfl) ⟨fun w' hw => rd_of hw.2 rfl, ?_⟩
      refine (lost19_c t.box).mono ?_
      rintro _ _ ⟨rfl, rfl⟩
      refine ⟨⟨cellOf hD2 rfl, cellOf hD2 rfl⟩, ?_⟩
      simp only [isB_i, isTup_i, isInt_i, isSl_i, isPtr_i, isCs_i, isStr_i, isFn_i, isIf_i, rd_i, br_t, br_f, orO_s, orO_n, gd_t, bv_add, bv_sub, bv_mul, bv_eql, bv_neq, bv_lss, bv_leq, bv_gtr, bv_geq, bv_quo, bv_rem, bv_shl, bv_shr, bv_seq, bv_sne, bv_ptr, bv_if, bv_map, bv_nf, bv_bool, bv_sl, bv_fn, uv_not, uv_neg, eqV, nilV, nc_ptr, nc_fn, nc_if, Option.map_some, toN, Nat.mul_one, implies_true, true_and, and_true, and_self]
      refine br_ndec (fun h => by simp at h) (fun _ => ?_)
      rw [w64 (by omega)]
      refine ⟨⟨k + 1, by omega, by omega, rfl, buf', lost', t⟩, ?_⟩
      show 300 - ((k : Int) + 1).toNat < 300 - (k : Int).toNat; omega
  · rintro u w100 ⟨buf, lost, ht⟩
    have t := ht.keep (Fm.drew _) ⟨id, id, id⟩ (fun _ _ => id) (fun _ h => h.elim)
    obtain ⟨s, hD2, ho⟩ := t.ref
    obtain ⟨q, qc, rfl, -⟩ := own_read ho
    refine ⟨fun w' => w'.cell? ⟨D, 1, none⟩ = some (.slice q buf.length qc), cellOf hD2 rfl, ?_⟩
    simp only [addr_add, Nat.zero_add, isB_i, isTup_i, isInt_i, isSl_i, isPtr_i, isCs_i, isStr_i, isFn_i, isIf_i, rd_i, br_t, br_f, orO_s, orO_n, gd_t, bv_add, bv_sub, bv_mul, bv_eql, bv_neq, bv_lss, bv_leq, bv_gtr, bv_geq, bv_quo, bv_rem, bv_shl, bv_shr, bv_seq, bv_sne, bv_ptr, bv_if, bv_map, bv_nf, bv_bool, bv_sl, bv_fn, uv_not, uv_neg, eqV, nilV, nc_ptr, nc_fn, nc_if, Option.map_some, toN, Nat.mul_one, implies_true, true_and, and_true, and_self]
    refine rd_of (v := .slice q buf.length qc) (cellOf hD2 rfl) ⟨fun w' hw => rd_of hw rfl, ?_⟩
    have hl2 := t.len
    refine (drain21_c t.box t.num.one (by omega)).mono ?_
    rintro v w140 ⟨hb1, ho1, hf1⟩
    have hr1 := t.ref.keep hf1 t.ne.2 (fun i hi e => (box_no_row t.box (by decide) hi).2 e)
    have hF1 : Fm none' W w140 := t.fm.trans' hf1 (by rintro i hi rfl; have := t.a; omega)
    have hD3 := hf1.keep hD2 t.ne.2
    have ho3 := hf1.owns ho fun i hi e => (box_no_row t.box (by decide) (own_block ho hi)).2 e
    refine ⟨cellOf hD3 rfl, ?_⟩
    refine (same20_c ho1 ho3 t.num (by omega)).mono ?_
    rintro _ w144 ⟨rfl, hf2⟩
    have hD4 := hf2.keep hD3 id
    refine ⟨cellOf hD4 rfl, ?_⟩
    simp only [isB_i, isTup_i, isInt_i, isSl_i, isPtr_i, isCs_i, isStr_i, isFn_i, isIf_i, rd_i, br_t, br_f, orO_s, orO_n, gd_t, bv_add, bv_sub, bv_mul, bv_eql, bv_neq, bv_lss, bv_leq, bv_gtr, bv_geq, bv_quo, bv_rem, bv_shl, bv_shr, bv_seq, bv_sne, bv_ptr, bv_if, bv_map, bv_nf, bv_bool, bv_sl, bv_fn, uv_not, uv_neg, eqV, nilV, nc_ptr, nc_fn, nc_if, Option.map_some, toN, Nat.mul_one, implies_true, true_and, and_true, and_self]
    refine (len23_c (hb1.keep hf2 id id)).mono ?_
    rintro _ _ ⟨rfl, rfl⟩
    refine ⟨cellOf hD4 rfl, ?_⟩
    simp only [isB_i, isTup_i, isInt_i, isSl_i, isPtr_i, isCs_i, isStr_i, isFn_i, isIf_i, rd_i, br_t, br_f, orO_s, orO_n, gd_t, bv_add, bv_sub, bv_mul, bv_eql, bv_neq, bv_lss, bv_leq, bv_gtr, bv_geq, bv_quo, bv_rem, bv_shl, bv_shr, bv_seq, bv_sne, bv_ptr, bv_if, bv_map, bv_nf, bv_bool, bv_sl, bv_fn, uv_not, uv_neg, eqV, nilV, nc_ptr, nc_fn, nc_if, Option.map_some, toN, Nat.mul_one, implies_true, true_and, and_true, and_self]
    exact ⟨by simp, hF1.trans hf2⟩
end Go.Proofs.Ytmhbgaledhfpkaa
