/- message: may a message be.  Conditions: its fields are in their types' ranges, its bytes may be read, no more than ninety million. -/
import Derived.Test.YtfekkdmnboccfaaSame2
namespace Go.Proofs.Ytfekkdmnboccfaa
set_option linter.unusedSimpArgs false
set_option linter.unusedVariables false
open Go Go.RowKit VC
/-- Right, as the program has it. -/
def rightM (m : Msg) : Bool := known m && !fieldBad m && decide (m = (rdFields m.kind ⟨byteBits (pack (fieldBits m)), 0⟩).1)
theorem fieldBits_len (m : Msg) : (fieldBits m).length ≤ 8 * m.bytes.length + 300 := by
  have hv : ∀ (l : List Int) (k : Nat), (vecB l k).length = l.length * k := by
    intro l k
    induction l with
    | nil => simp [vecB]
    | cons y l ih => simp only [vecB, List.flatMap_cons, List.length_append] at ih ⊢; rw [ih]; simp only [vecBits, bitsOf_length, List.length_cons, Nat.succ_mul]; omega
  unfold fieldBits
  repeat' split
  all_goals simp only [cmdBits, numBits, sgnBits, bitsOf_length, List.length_append, hv, byteBits_length, List.length_cons, List.length_nil]
  all_goals omega
theorem known_blank (m : Msg) : known (blank m.kind) = known m := rfl
variable {w : World}
set_option maxRecDepth 20000 in
set_option maxHeartbeats 2000000 in
theorem right16_c {m : Msg} {p : Option Addr} {cp : Nat} (hm : Mok m) (hy : BytesAt w p m.bytes) (hp : ∀ ad, p = some ad → m.bytes ≠ [] → ad.block < w.heap.size) (hl : m.bytes.length ≤ 140737488351232) :
    callV Try.prog 16 [.agg (msgC m p cp).toArray] w fun v w' => v = .bool (rightM m) ∧ Fm none' w w' := by
  show callV Try.prog 16 [.agg (msgC m p cp).toArray] w _
  have hmc : ∀ K : List Value → Prop, K (msgC m p cp) → K (msgC m p cp) := fun _ h => h
  unfold msgC
  apply vc16
  refine allocC_of fun w1 hb1 hs1 hf1 => ?_
  change w1.heap[w.heap.size]? = some (.cells (msgC m p cp).toArray 40 (0, 0)) at hb1
  refine rd_of (v := msgC m p cp) (cells_all hb1 rfl) ?_
  refine allocC_of fun w4 hb4 hs4 hf4 => ?_
  rw [hs1] at hb4 hs4 ⊢
  refine rd_of (v := ()) rfl ?_
  refine stC_all hb4 rfl (by intro v hv; simp only [msgC, List.mem_cons, List.not_mem_nil, or_false] at hv; rcases hv with rfl | rfl | rfl | rfl | rfl | rfl | rfl | rfl | rfl | rfl | rfl | rfl | rfl | rfl | rfl | rfl | rfl | rfl | rfl | rfl | rfl | rfl | rfl <;> rfl) fun w5 hb5 hf5 => ?_
  have hs5 : w5.heap.size ≥ w.heap.size + 2 := by have := hf5.size; omega
  refine allocC_of fun w7 hb7 hs7 hf7 => ?_
  obtain ⟨A, hA⟩ : ∃ A, A = w5.heap.size := ⟨_, rfl⟩
  rw [← hA] at hb7 ⊢
  have hF7 : Fm none' w w7 := ((hf1.trans hf4).trans' hf5 (by rintro i hi rfl; omega)).trans hf7
  have hB7 := hf7.keep hb5 id
  have hw7 : WrAt w7 w.heap.size A 58 (.bool false) [] none := ⟨.slice none 0 0, hb7, ⟨rfl, .inl ⟨rfl, rfl⟩⟩, rfl, by simp, hF7.size⟩
  refine (fields22_c (m := m) (p := p) (cp := cp) (B := w.heap.size + 1) hw7 hB7 hm (by omega) (by simp) (fun j y hj => ?_) (fun ad e hne => by have := hp ad e hne; have := hF7.size; omega) (by simp; omega)).mono ?_
  · obtain ⟨ad, e, hc⟩ := hy j y hj
    exact ⟨ad, e, by have := hp ad e (ne_of hj); omega, by simp, hF7.cell hc id⟩
  rintro _ w9 ⟨rfl, _, g9, hw9, hg9, hf9⟩
  simp only [isB_i, isK_i, isP_i, isTup_i, isInt_i, isSl_i, isPtr_i, isCs_i, isStr_i, isFn_i, isIf_i, rd_i, br_t, br_f, orO_s, orO_n, gd_t, bv_add, bv_sub, bv_mul, bv_eql, bv_neq, bv_lss, bv_leq, bv_gtr, bv_geq, bv_quo, bv_rem, bv_shl, bv_shr, bv_seq, bv_sne, bv_ptr, bv_if, bv_map, bv_nf, bv_bool, bv_sl, bv_fn, uv_not, uv_neg, eqV, nilV, nc_ptr, nc_fn, nc_if, Option.map_some, toN, Nat.mul_one, implies_true, true_and, and_true, and_self]
  have hF9 : Fm none' w w9 := hF7.trans' hf9 (by rintro i hi (e | e); omega; cases e)
  refine br_ndec' (fun hk => ?_) (fun hk => ?_)
  · refine ⟨?_, hF9⟩
    unfold rightM; rw [hk]; rfl
  simp only [List.nil_append, Bool.false_or] at hw9
  obtain ⟨v9, h91, h92, h93, h94, h95⟩ := id hw9
  refine rd_of (v := .bool (fieldBad m)) (cellOf h91 rfl) ?_
  simp only [isB_i, isK_i, isP_i, isTup_i, isInt_i, isSl_i, isPtr_i, isCs_i, isStr_i, isFn_i, isIf_i, rd_i, br_t, br_f, orO_s, orO_n, gd_t, bv_add, bv_sub, bv_mul, bv_eql, bv_neq, bv_lss, bv_leq, bv_gtr, bv_geq, bv_quo, bv_rem, bv_shl, bv_shr, bv_seq, bv_sne, bv_ptr, bv_if, bv_map, bv_nf, bv_bool, bv_sl, bv_fn, uv_not, uv_neg, eqV, nilV, nc_ptr, nc_fn, nc_if, Option.map_some, toN, Nat.mul_one, implies_true, true_and, and_true, and_self]
  refine br_b (fun hbad => ?_) (fun hbad => ?_)
  · refine ⟨?_, hF9⟩
    unfold rightM; rw [hk, hbad]; rfl
  have hfl := fieldBits_len m
  refine (bytes23_c hw9 (by omega)).mono ?_
  rintro v13 w14 ⟨hv13, hfr13, hf14⟩
  obtain ⟨p13, c13, rfl, -⟩ := own_read hv13
  simp only [isB_i, isK_i, isP_i, isTup_i, isInt_i, isSl_i, isPtr_i, isCs_i, isStr_i, isFn_i, isIf_i, rd_i, br_t, br_f, orO_s, orO_n, gd_t, bv_add, bv_sub, bv_mul, bv_eql, bv_neq, bv_lss, bv_leq, bv_gtr, bv_geq, bv_quo, bv_rem, bv_shl, bv_shr, bv_seq, bv_sne, bv_ptr, bv_if, bv_map, bv_nf, bv_bool, bv_sl, bv_fn, uv_not, uv_neg, eqV, nilV, nc_ptr, nc_fn, nc_if, Option.map_some, toN, Nat.mul_one, implies_true, true_and, and_true, and_self]
  have hF14 := hF9.trans hf14
  refine (reader25_c (base := w.heap.size) (BytesAt.of_own hv13) (pack_range _) (by rw [pack_length]; omega) hF14.size).mono ?_
  rintro _ w19 ⟨R, gR, rfl, hR, hbr, hgR, hf19⟩
  simp only [isB_i, isK_i, isP_i, isTup_i, isInt_i, isSl_i, isPtr_i, isCs_i, isStr_i, isFn_i, isIf_i, rd_i, br_t, br_f, orO_s, orO_n, gd_t, bv_add, bv_sub, bv_mul, bv_eql, bv_neq, bv_lss, bv_leq, bv_gtr, bv_geq, bv_quo, bv_rem, bv_shl, bv_shr, bv_seq, bv_sne, bv_ptr, bv_if, bv_map, bv_nf, bv_bool, bv_sl, bv_fn, uv_not, uv_neg, eqV, nilV, nc_ptr, nc_fn, nc_if, Option.map_some, toN, Nat.mul_one, implies_true, true_and, and_true, and_self]
  have hF19 := hF14.trans hf19
  refine allocC_of fun w22 hb22 hs22 hf22 => ?_
  have hF22 := hF19.trans hf22
  have hb1' : w22.heap[w.heap.size]? = some (.cells (msgC m p cp).toArray 40 (0, 0)) := by
    refine hf22.keep (hf19.keep (hf14.keep (hf9.keep (hf7.keep (hf5.keep (hf4.keep hb1 id) ?_) id) ?_) id) id) id
    · omega
    · rintro (e | e); omega; cases e
  refine rd_of (v := .int .i64 m.kind) (cellOf hb1' rfl) ?_
  simp only [isB_i, isK_i, isP_i, isTup_i, isInt_i, isSl_i, isPtr_i, isCs_i, isStr_i, isFn_i, isIf_i, rd_i, br_t, br_f, orO_s, orO_n, gd_t, bv_add, bv_sub, bv_mul, bv_eql, bv_neq, bv_lss, bv_leq, bv_gtr, bv_geq, bv_quo, bv_rem, bv_shl, bv_shr, bv_seq, bv_sne, bv_ptr, bv_if, bv_map, bv_nf, bv_bool, bv_sl, bv_fn, uv_not, uv_neg, eqV, nilV, nc_ptr, nc_fn, nc_if, Option.map_some, toN, Nat.mul_one, implies_true, true_and, and_true, and_self]
  refine allocC_of fun w26 hb26 hs26 hf26 => ?_
  refine stC_all hb26 rfl (by intro v hv; simp only [List.mem_cons, List.not_mem_nil, or_false] at hv; rcases hv with rfl | rfl | rfl | rfl | rfl | rfl | rfl | rfl | rfl | rfl | rfl | rfl | rfl | rfl | rfl | rfl | rfl | rfl | rfl | rfl | rfl | rfl | rfl <;> rfl) fun w27 hb27 hf27 => ?_
  change w27.heap[w22.heap.size]? = some (.cells (msgC (blank m.kind) none 0).toArray 40 (0, 0)) at hb27
  have hF26 : Fm none' w19 w27 := (hf22.trans hf26).trans' hf27 (by rintro i hi rfl; omega)
  have hrl := hbr.lt
  have hrd : RdAt w27 w.heap.size w19.heap.size R ⟨byteBits (pack (fieldBits m)), 0⟩ gR := by
    refine ⟨hf27.keep (hf26.keep hb22 id) (by omega), by omega, fun e => by have := hrl.2 _ e; omega, hbr.keep hF26 id fun _ _ y => y⟩
  refine (rfields22_c (k := m.kind) hrd hb27 (by omega) (by omega) (fun e => by have := hrl.2 _ e; omega) (by have := hF19.size; have := hF26.size; omega)).mono ?_
  rintro _ w29 ⟨rfl, p29, c29, hrd29, hb29, hf29, hown29, hfr29⟩
  simp only [isB_i, isK_i, isP_i, isTup_i, isInt_i, isSl_i, isPtr_i, isCs_i, isStr_i, isFn_i, isIf_i, rd_i, br_t, br_f, orO_s, orO_n, gd_t, bv_add, bv_sub, bv_mul, bv_eql, bv_neq, bv_lss, bv_leq, bv_gtr, bv_geq, bv_quo, bv_rem, bv_shl, bv_shr, bv_seq, bv_sne, bv_ptr, bv_if, bv_map, bv_nf, bv_bool, bv_sl, bv_fn, uv_not, uv_neg, eqV, nilV, nc_ptr, nc_fn, nc_if, Option.map_some, toN, Nat.mul_one, implies_true, true_and, and_true, and_self]
  have hR9 := hF9.size
  have hR14 := hf14.size
  have hb1'' : w29.heap[w.heap.size]? = some (.cells (msgC m p cp).toArray 40 (0, 0)) := by
    refine hf29.keep (hf27.keep (hf26.keep hb1' id) ?_) ?_
    · have := hF19.size; omega
    · have := hF19.size; have := lt_of_blk hb1; have h9 := lt_of_blk h91; rintro (e | e | e) <;> omega
  refine rd_of (v := msgC m p cp) (cells_all hb1'' rfl) ?_
  refine rd_of (v := msgC _ p29 c29) (cells_all hb29 rfl) ?_
  have hF29 : Fm none' w w29 := (hF19.trans hF26).trans' hf29 (by have := hF19.size; have h9 := lt_of_blk h91; rintro i hi (e | e | e) <;> omega)
  refine (same26_c (hy.keep hF29 fun _ _ => id) (BytesAt.of_own hown29) (by omega)).mono ?_
  rintro _ w34 ⟨rfl, hf34⟩
  simp only [isB_i, isK_i, isP_i, isTup_i, isInt_i, isSl_i, isPtr_i, isCs_i, isStr_i, isFn_i, isIf_i, rd_i, br_t, br_f, orO_s, orO_n, gd_t, bv_add, bv_sub, bv_mul, bv_eql, bv_neq, bv_lss, bv_leq, bv_gtr, bv_geq, bv_quo, bv_rem, bv_shl, bv_shr, bv_seq, bv_sne, bv_ptr, bv_if, bv_map, bv_nf, bv_bool, bv_sl, bv_fn, uv_not, uv_neg, eqV, nilV, nc_ptr, nc_fn, nc_if, Option.map_some, toN, Nat.mul_one, implies_true, true_and, and_true, and_self]
  refine ⟨?_, hF29.trans hf34⟩
  unfold rightM; rw [hk, hbad]; rfl
end Go.Proofs.Ytfekkdmnboccfaa
