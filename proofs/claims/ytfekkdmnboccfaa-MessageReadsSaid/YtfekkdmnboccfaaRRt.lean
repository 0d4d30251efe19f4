/- the reference: may a message be.  Conditions: the message's fields are in their types' ranges; its bytes may be read. -/
import Derived.Test.YtfekkdmnboccfaaRTx
import Derived.Test.YtfekkdmnboccfaaD1
namespace Go.Proofs.Ytfekkdmnboccfaa
set_option linter.unusedSimpArgs false
set_option linter.unusedVariables false
open Go Go.RowKit VC
variable {w : World}
theorem far29_c {a0 a1 a2 b c : Int} : callV Try.prog 29 [.agg #[.int .i64 a0, .int .i64 a1, .int .i64 a2], .int .i64 b, .int .i64 c] w fun v w' => v = .bool (decide ((b ≤ a0 ∧ a0 ≤ c) ∧ (b ≤ a1 ∧ a1 ≤ c) ∧ (b ≤ a2 ∧ a2 ≤ c))) ∧ Fm none' w w' := by
  refine vc29 a0 a1 a2 b c w _ ?_
  refine allocC_of fun w1 hb1 hs1 hf1 => ?_
  refine rd_of (v := .int .i64 a0) (cellOf hb1 rfl) ?_
  simp only [isB_i, isK_i, isP_i, isTup_i, isInt_i, isSl_i, isPtr_i, isCs_i, isStr_i, isFn_i, isIf_i, rd_i, br_t, br_f, orO_s, orO_n, gd_t, bv_add, bv_sub, bv_mul, bv_eql, bv_neq, bv_lss, bv_leq, bv_gtr, bv_geq, bv_quo, bv_rem, bv_shl, bv_shr, bv_seq, bv_sne, bv_ptr, bv_if, bv_map, bv_nf, bv_bool, bv_sl, bv_fn, uv_not, uv_neg, eqV, nilV, nc_ptr, nc_fn, nc_if, Option.map_some, toN, Nat.mul_one, implies_true, true_and, and_true, and_self]
  refine rd_of (v := .int .i64 a1) (cellOf hb1 rfl) ?_
  simp only [isB_i, isK_i, isP_i, isTup_i, isInt_i, isSl_i, isPtr_i, isCs_i, isStr_i, isFn_i, isIf_i, rd_i, br_t, br_f, orO_s, orO_n, gd_t, bv_add, bv_sub, bv_mul, bv_eql, bv_neq, bv_lss, bv_leq, bv_gtr, bv_geq, bv_quo, bv_rem, bv_shl, bv_shr, bv_seq, bv_sne, bv_ptr, bv_if, bv_map, bv_nf, bv_bool, bv_sl, bv_fn, uv_not, uv_neg, eqV, nilV, nc_ptr, nc_fn, nc_if, Option.map_some, toN, Nat.mul_one, implies_true, true_and, and_true, and_self]
  refine rd_of (v := .int .i64 a2) (cellOf hb1 rfl) ?_
  simp only [isB_i, isK_i, isP_i, isTup_i, isInt_i, isSl_i, isPtr_i, isCs_i, isStr_i, isFn_i, isIf_i, rd_i, br_t, br_f, orO_s, orO_n, gd_t, bv_add, bv_sub, bv_mul, bv_eql, bv_neq, bv_lss, bv_leq, bv_gtr, bv_geq, bv_quo, bv_rem, bv_shl, bv_shr, bv_seq, bv_sne, bv_ptr, bv_if, bv_map, bv_nf, bv_bool, bv_sl, bv_fn, uv_not, uv_neg, eqV, nilV, nc_ptr, nc_fn, nc_if, Option.map_some, toN, Nat.mul_one, implies_true, true_and, and_true, and_self]
  refine min3 ?_
  simp only [isB_i, isK_i, isP_i, isTup_i, isInt_i, isSl_i, isPtr_i, isCs_i, isStr_i, isFn_i, isIf_i, rd_i, br_t, br_f, orO_s, orO_n, gd_t, bv_add, bv_sub, bv_mul, bv_eql, bv_neq, bv_lss, bv_leq, bv_gtr, bv_geq, bv_quo, bv_rem, bv_shl, bv_shr, bv_seq, bv_sne, bv_ptr, bv_if, bv_map, bv_nf, bv_bool, bv_sl, bv_fn, uv_not, uv_neg, eqV, nilV, nc_ptr, nc_fn, nc_if, Option.map_some, toN, Nat.mul_one, implies_true, true_and, and_true, and_self]
  refine br_dec (fun h => ?_) (fun h => ⟨?_, hf1⟩)
  · refine rd_of (v := .int .i64 a0) (cellOf hb1 rfl) ?_
    simp only [isB_i, isK_i, isP_i, isTup_i, isInt_i, isSl_i, isPtr_i, isCs_i, isStr_i, isFn_i, isIf_i, rd_i, br_t, br_f, orO_s, orO_n, gd_t, bv_add, bv_sub, bv_mul, bv_eql, bv_neq, bv_lss, bv_leq, bv_gtr, bv_geq, bv_quo, bv_rem, bv_shl, bv_shr, bv_seq, bv_sne, bv_ptr, bv_if, bv_map, bv_nf, bv_bool, bv_sl, bv_fn, uv_not, uv_neg, eqV, nilV, nc_ptr, nc_fn, nc_if, Option.map_some, toN, Nat.mul_one, implies_true, true_and, and_true, and_self]
    refine rd_of (v := .int .i64 a1) (cellOf hb1 rfl) ?_
    simp only [isB_i, isK_i, isP_i, isTup_i, isInt_i, isSl_i, isPtr_i, isCs_i, isStr_i, isFn_i, isIf_i, rd_i, br_t, br_f, orO_s, orO_n, gd_t, bv_add, bv_sub, bv_mul, bv_eql, bv_neq, bv_lss, bv_leq, bv_gtr, bv_geq, bv_quo, bv_rem, bv_shl, bv_shr, bv_seq, bv_sne, bv_ptr, bv_if, bv_map, bv_nf, bv_bool, bv_sl, bv_fn, uv_not, uv_neg, eqV, nilV, nc_ptr, nc_fn, nc_if, Option.map_some, toN, Nat.mul_one, implies_true, true_and, and_true, and_self]
    refine rd_of (v := .int .i64 a2) (cellOf hb1 rfl) ?_
    simp only [isB_i, isK_i, isP_i, isTup_i, isInt_i, isSl_i, isPtr_i, isCs_i, isStr_i, isFn_i, isIf_i, rd_i, br_t, br_f, orO_s, orO_n, gd_t, bv_add, bv_sub, bv_mul, bv_eql, bv_neq, bv_lss, bv_leq, bv_gtr, bv_geq, bv_quo, bv_rem, bv_shl, bv_shr, bv_seq, bv_sne, bv_ptr, bv_if, bv_map, bv_nf, bv_bool, bv_sl, bv_fn, uv_not, uv_neg, eqV, nilV, nc_ptr, nc_fn, nc_if, Option.map_some, toN, Nat.mul_one, implies_true, true_and, and_true, and_self]
    refine max3 ?_
    simp only [isB_i, isK_i, isP_i, isTup_i, isInt_i, isSl_i, isPtr_i, isCs_i, isStr_i, isFn_i, isIf_i, rd_i, br_t, br_f, orO_s, orO_n, gd_t, bv_add, bv_sub, bv_mul, bv_eql, bv_neq, bv_lss, bv_leq, bv_gtr, bv_geq, bv_quo, bv_rem, bv_shl, bv_shr, bv_seq, bv_sne, bv_ptr, bv_if, bv_map, bv_nf, bv_bool, bv_sl, bv_fn, uv_not, uv_neg, eqV, nilV, nc_ptr, nc_fn, nc_if, Option.map_some, toN, Nat.mul_one, implies_true, true_and, and_true, and_self]
    refine ⟨?_, hf1⟩
    congr 1
    rw [decide_eq_decide]
    omega
  · congr 1
    symm
    rw [decide_eq_false_iff_not]
    omega
theorem BytesAt.none : BytesAt w (none : Option Addr) [] := fun j y h => by simp at h
set_option maxRecDepth 20000 in
set_option maxHeartbeats 4000000 in
theorem only28_c {m : Msg} {q : Option Addr} {c : Nat} (hby : BytesAt w q m.bytes) :
    callV Try.prog 28 [.agg (msgC m q c).toArray] w fun v w' => ∃ q' c', v = .agg (msgC (only m) q' c').toArray ∧ BytesAt w' q' (only m).bytes ∧ Fm none' w w' := by
  unfold msgC
  apply vc28
  refine allocC_of fun w1 hb1 hs1 hf1 => ?_
  change w1.heap[w.heap.size]? = some (.cells (msgC m q c).toArray 40 (0, 0)) at hb1
  refine allocC_of fun w3 hb3 hs3 hf3 => ?_
  change w3.heap[w1.heap.size]? = some (.cells (msgC (blank 0) none 0).toArray 40 (0, 0)) at hb3
  have h1 := hf3.keep hb1 id
  refine rd_of (v := .int .i64 m.kind) (cellOf h1 rfl) ?_
  simp only [isB_i, isK_i, isP_i, isTup_i, isInt_i, isSl_i, isPtr_i, isCs_i, isStr_i, isFn_i, isIf_i, rd_i, br_t, br_f, orO_s, orO_n, gd_t, bv_add, bv_sub, bv_mul, bv_eql, bv_neq, bv_lss, bv_leq, bv_gtr, bv_geq, bv_quo, bv_rem, bv_shl, bv_shr, bv_seq, bv_sne, bv_ptr, bv_if, bv_map, bv_nf, bv_bool, bv_sl, bv_fn, uv_not, uv_neg, eqV, nilV, nc_ptr, nc_fn, nc_if, Option.map_some, toN, Nat.mul_one, implies_true, true_and, and_true, and_self]
  refine allocC_of fun w7 hb7 hs7 hf7 => ?_
  refine stC_all hb7 rfl (by intro v hv; exact msgC_one (m := blank m.kind) (q := none) (cq := 0) v hv) fun w8 hb8 hf8 => ?_
  obtain ⟨A, hA⟩ : ∃ A, A = w.heap.size := ⟨_, rfl⟩
  obtain ⟨O, hO⟩ : ∃ O, O = w1.heap.size := ⟨_, rfl⟩
  obtain ⟨X, hX⟩ : ∃ X, X = w3.heap.size := ⟨_, rfl⟩
  change w8.heap[w3.heap.size]? = some (.cells (msgC (blank m.kind) none 0).toArray 40 (0, 0)) at hb8
  rw [← hA] at h1 ⊢
  rw [← hO] at hb3 ⊢
  rw [← hX] at hb8 hf8 ⊢
  have hA8 : w8.heap[A]? = some (.cells (msgC m q c).toArray 40 (0, 0)) := hf8.keep (hf7.keep h1 id) (by omega)
  have hO8 : w8.heap[O]? = some (.cells (msgC (blank 0) none 0).toArray 40 (0, 0)) := hf8.keep (hf7.keep hb3 id) (by omega)
  have hF8 : Fm none' w w8 := ((hf1.trans hf3).trans hf7).trans' hf8 (by rintro i hi rfl; omega)
  refine ⟨fun _ w' => ∃ q' c', w'.heap[X]? = some (.cells (msgC (only m) q' c').toArray 40 (0, 0)) ∧ BytesAt w' q' (only m).bytes ∧ (∀ ad, q' = some ad → (only m).bytes ≠ [] → ad.block < w.heap.size) ∧ Fm (fun i => i = X) w8 w', ?_, ?_⟩
  · have hby8 := hby.keep hF8 fun _ _ => id
    refine rd_of (v := .int .i64 m.kind) (cellOf hA8 rfl) ?_
    simp only [isB_i, isK_i, isP_i, isTup_i, isInt_i, isSl_i, isPtr_i, isCs_i, isStr_i, isFn_i, isIf_i, rd_i, br_t, br_f, orO_s, orO_n, gd_t, bv_add, bv_sub, bv_mul, bv_eql, bv_neq, bv_lss, bv_leq, bv_gtr, bv_geq, bv_quo, bv_rem, bv_shl, bv_shr, bv_seq, bv_sne, bv_ptr, bv_if, bv_map, bv_nf, bv_bool, bv_sl, bv_fn, uv_not, uv_neg, eqV, nilV, nc_ptr, nc_fn, nc_if, Option.map_some, toN, Nat.mul_one, implies_true, true_and, and_true, and_self]
    have done : ∀ {w' : World} {x : Msg}, only m = x → x.bytes = [] → w'.heap[X]? = some (.cells (msgC x none 0).toArray 40 (0, 0)) → Fm (fun i => i = X) w8 w' → ∃ q' c', w'.heap[X]? = some (.cells (msgC (only m) q' c').toArray 40 (0, 0)) ∧ BytesAt w' q' (only m).bytes ∧ (∀ ad, q' = some ad → (only m).bytes ≠ [] → ad.block < w.heap.size) ∧ Fm (fun i => i = X) w8 w' := by
      rintro w' x rfl hb hx hf
      exact ⟨none, 0, hx, by rw [hb]; exact BytesAt.none, fun ad e => (by cases e), hf⟩
    refine br_dec (fun k2 => ?_) (fun k2 => ?_)
    · refine rd_of (v := ([.int .u16 m.cq, .int .u8 m.cb, .int .i8 m.cdx, .int .i8 m.cdy, .int .i64 m.ct] : List Value)) (cells_row hA8 (by simp [msgC])) ?_
      refine rd_of (v := ()) rfl ?_
      refine stC_at hb8 (by simp [msgC]) (by intro v hv; simp at hv; rcases hv with rfl | rfl | rfl | rfl | rfl <;> rfl) fun w13 hb13 hf13 => ?_
      exact done (x := { blank m.kind with cq := m.cq, cb := m.cb, cdx := m.cdx, cdy := m.cdy, ct := m.ct }) (by unfold only; rw [if_pos k2]) rfl hb13 hf13
    refine br_dec (fun k3 => ?_) (fun k3 => ?_)
    · refine rd_of (v := .int .u16 m.prov) (cellOf hA8 rfl) ?_
      simp only [isB_i, isK_i, isP_i, isTup_i, isInt_i, isSl_i, isPtr_i, isCs_i, isStr_i, isFn_i, isIf_i, rd_i, br_t, br_f, orO_s, orO_n, gd_t, bv_add, bv_sub, bv_mul, bv_eql, bv_neq, bv_lss, bv_leq, bv_gtr, bv_geq, bv_quo, bv_rem, bv_shl, bv_shr, bv_seq, bv_sne, bv_ptr, bv_if, bv_map, bv_nf, bv_bool, bv_sl, bv_fn, uv_not, uv_neg, eqV, nilV, nc_ptr, nc_fn, nc_if, Option.map_some, toN, Nat.mul_one, implies_true, true_and, and_true, and_self]
      refine stC_one hb8 (by simp [msgC]) rfl fun w16 hb16 hf16 => ?_
      have hA16 := hf16.keep hA8 (by omega)
      refine rd_of (v := .int .i64 m.shot) (cellOf hA16 rfl) ?_
      simp only [isB_i, isK_i, isP_i, isTup_i, isInt_i, isSl_i, isPtr_i, isCs_i, isStr_i, isFn_i, isIf_i, rd_i, br_t, br_f, orO_s, orO_n, gd_t, bv_add, bv_sub, bv_mul, bv_eql, bv_neq, bv_lss, bv_leq, bv_gtr, bv_geq, bv_quo, bv_rem, bv_shl, bv_shr, bv_seq, bv_sne, bv_ptr, bv_if, bv_map, bv_nf, bv_bool, bv_sl, bv_fn, uv_not, uv_neg, eqV, nilV, nc_ptr, nc_fn, nc_if, Option.map_some, toN, Nat.mul_one, implies_true, true_and, and_true, and_self]
      refine stC_one hb16 (by simp [msgC]) rfl fun w19 hb19 hf19 => ?_
      have hA19 := hf19.keep hA16 (by omega)
      refine rd_of (v := ([.int .i64 m.d0, .int .i64 m.d1, .int .i64 m.d2] : List Value)) (cells_row hA19 (by simp [msgC])) ?_
      refine rd_of (v := ()) rfl ?_
      refine stC_at hb19 (by simp [msgC]) (by intro v hv; simp at hv; rcases hv with rfl | rfl | rfl <;> rfl) fun w13 hb13 hf13 => ?_
      exact done (x := { blank m.kind with prov := m.prov, shot := m.shot, d0 := m.d0, d1 := m.d1, d2 := m.d2 }) (by unfold only; rw [if_neg k2, if_pos k3]) rfl hb13 ((hf16.trans hf19).trans hf13)
    refine br_dec (fun k5 => ?_) (fun k5 => ?_)
    · refine rd_of (v := .int .i64 m.id) (cellOf hA8 rfl) ?_
      simp only [isB_i, isK_i, isP_i, isTup_i, isInt_i, isSl_i, isPtr_i, isCs_i, isStr_i, isFn_i, isIf_i, rd_i, br_t, br_f, orO_s, orO_n, gd_t, bv_add, bv_sub, bv_mul, bv_eql, bv_neq, bv_lss, bv_leq, bv_gtr, bv_geq, bv_quo, bv_rem, bv_shl, bv_shr, bv_seq, bv_sne, bv_ptr, bv_if, bv_map, bv_nf, bv_bool, bv_sl, bv_fn, uv_not, uv_neg, eqV, nilV, nc_ptr, nc_fn, nc_if, Option.map_some, toN, Nat.mul_one, implies_true, true_and, and_true, and_self]
      refine stC_one hb8 (by simp [msgC]) rfl fun w16 hb16 hf16 => ?_
      exact done (x := { blank m.kind with id := m.id }) (by unfold only; rw [if_neg k2, if_neg k3, if_neg (by omega), if_neg (by omega), if_pos k5]) rfl hb16 hf16
    refine br_dec (fun k6 => ?_) (fun k6 => ?_)
    · refine rd_of (v := .int .u16 m.seq) (cellOf hA8 rfl) ?_
      simp only [isB_i, isK_i, isP_i, isTup_i, isInt_i, isSl_i, isPtr_i, isCs_i, isStr_i, isFn_i, isIf_i, rd_i, br_t, br_f, orO_s, orO_n, gd_t, bv_add, bv_sub, bv_mul, bv_eql, bv_neq, bv_lss, bv_leq, bv_gtr, bv_geq, bv_quo, bv_rem, bv_shl, bv_shr, bv_seq, bv_sne, bv_ptr, bv_if, bv_map, bv_nf, bv_bool, bv_sl, bv_fn, uv_not, uv_neg, eqV, nilV, nc_ptr, nc_fn, nc_if, Option.map_some, toN, Nat.mul_one, implies_true, true_and, and_true, and_self]
      refine stC_one hb8 (by simp [msgC]) rfl fun w16 hb16 hf16 => ?_
      have hA16 := hf16.keep hA8 (by omega)
      refine rd_of (v := ([.int .i64 m.p0, .int .i64 m.p1, .int .i64 m.p2] : List Value)) (cells_row hA16 (by simp [msgC])) ?_
      refine rd_of (v := ()) rfl ?_
      refine stC_at hb16 (by simp [msgC]) (by intro v hv; simp at hv; rcases hv with rfl | rfl | rfl <;> rfl) fun w19 hb19 hf19 => ?_
      have hA19 := hf19.keep hA16 (by omega)
      refine rd_of (v := ([.int .i64 m.v0, .int .i64 m.v1, .int .i64 m.v2] : List Value)) (cells_row hA19 (by simp [msgC])) ?_
      refine rd_of (v := ()) rfl ?_
      refine stC_at hb19 (by simp [msgC]) (by intro v hv; simp at hv; rcases hv with rfl | rfl | rfl <;> rfl) fun w13 hb13 hf13 => ?_
      exact done (x := { blank m.kind with seq := m.seq, p0 := m.p0, p1 := m.p1, p2 := m.p2, v0 := m.v0, v1 := m.v1, v2 := m.v2 }) (by unfold only; rw [if_neg k2, if_neg k3, if_pos k6]) rfl hb13 ((hf16.trans hf19).trans hf13)
    refine br_dec (fun k7 => ?_) (fun k7 => ?_)
    · refine rd_of (v := .int .u16 m.prov) (cellOf hA8 rfl) ?_
      simp only [isB_i, isK_i, isP_i, isTup_i, isInt_i, isSl_i, isPtr_i, isCs_i, isStr_i, isFn_i, isIf_i, rd_i, br_t, br_f, orO_s, orO_n, gd_t, bv_add, bv_sub, bv_mul, bv_eql, bv_neq, bv_lss, bv_leq, bv_gtr, bv_geq, bv_quo, bv_rem, bv_shl, bv_shr, bv_seq, bv_sne, bv_ptr, bv_if, bv_map, bv_nf, bv_bool, bv_sl, bv_fn, uv_not, uv_neg, eqV, nilV, nc_ptr, nc_fn, nc_if, Option.map_some, toN, Nat.mul_one, implies_true, true_and, and_true, and_self]
      refine stC_one hb8 (by simp [msgC]) rfl fun w16 hb16 hf16 => ?_
      have hA16 := hf16.keep hA8 (by omega)
      refine rd_of (v := .int .i64 m.id) (cellOf hA16 rfl) ?_
      simp only [isB_i, isK_i, isP_i, isTup_i, isInt_i, isSl_i, isPtr_i, isCs_i, isStr_i, isFn_i, isIf_i, rd_i, br_t, br_f, orO_s, orO_n, gd_t, bv_add, bv_sub, bv_mul, bv_eql, bv_neq, bv_lss, bv_leq, bv_gtr, bv_geq, bv_quo, bv_rem, bv_shl, bv_shr, bv_seq, bv_sne, bv_ptr, bv_if, bv_map, bv_nf, bv_bool, bv_sl, bv_fn, uv_not, uv_neg, eqV, nilV, nc_ptr, nc_fn, nc_if, Option.map_some, toN, Nat.mul_one, implies_true, true_and, and_true, and_self]
      refine stC_one hb16 (by simp [msgC]) rfl fun w19 hb19 hf19 => ?_
      exact done (x := { blank m.kind with prov := m.prov, id := m.id }) (by unfold only; rw [if_neg k2, if_neg k3, if_neg k6, if_pos k7]) rfl hb19 (hf16.trans hf19)
    refine br_dec (fun k8 => ?_) (fun k8 => ?_)
    · refine rd_of (v := .int .u16 m.prov) (cellOf hA8 rfl) ?_
      simp only [isB_i, isK_i, isP_i, isTup_i, isInt_i, isSl_i, isPtr_i, isCs_i, isStr_i, isFn_i, isIf_i, rd_i, br_t, br_f, orO_s, orO_n, gd_t, bv_add, bv_sub, bv_mul, bv_eql, bv_neq, bv_lss, bv_leq, bv_gtr, bv_geq, bv_quo, bv_rem, bv_shl, bv_shr, bv_seq, bv_sne, bv_ptr, bv_if, bv_map, bv_nf, bv_bool, bv_sl, bv_fn, uv_not, uv_neg, eqV, nilV, nc_ptr, nc_fn, nc_if, Option.map_some, toN, Nat.mul_one, implies_true, true_and, and_true, and_self]
      refine stC_one hb8 (by simp [msgC]) rfl fun w16 hb16 hf16 => ?_
      have hA16 := hf16.keep hA8 (by omega)
      refine rd_of (v := .int .i64 m.why) (cellOf hA16 rfl) ?_
      simp only [isB_i, isK_i, isP_i, isTup_i, isInt_i, isSl_i, isPtr_i, isCs_i, isStr_i, isFn_i, isIf_i, rd_i, br_t, br_f, orO_s, orO_n, gd_t, bv_add, bv_sub, bv_mul, bv_eql, bv_neq, bv_lss, bv_leq, bv_gtr, bv_geq, bv_quo, bv_rem, bv_shl, bv_shr, bv_seq, bv_sne, bv_ptr, bv_if, bv_map, bv_nf, bv_bool, bv_sl, bv_fn, uv_not, uv_neg, eqV, nilV, nc_ptr, nc_fn, nc_if, Option.map_some, toN, Nat.mul_one, implies_true, true_and, and_true, and_self]
      refine stC_one hb16 (by simp [msgC]) rfl fun w19 hb19 hf19 => ?_
      exact done (x := { blank m.kind with prov := m.prov, why := m.why }) (by unfold only; rw [if_neg k2, if_neg k3, if_neg k6, if_neg k7, if_neg k5, if_pos k8]) rfl hb19 (hf16.trans hf19)
    refine br_dec (fun k9 => ?_) (fun k9 => ?_)
    · refine rd_of (v := .int .u32 m.tick) (cellOf hA8 rfl) ?_
      simp only [isB_i, isK_i, isP_i, isTup_i, isInt_i, isSl_i, isPtr_i, isCs_i, isStr_i, isFn_i, isIf_i, rd_i, br_t, br_f, orO_s, orO_n, gd_t, bv_add, bv_sub, bv_mul, bv_eql, bv_neq, bv_lss, bv_leq, bv_gtr, bv_geq, bv_quo, bv_rem, bv_shl, bv_shr, bv_seq, bv_sne, bv_ptr, bv_if, bv_map, bv_nf, bv_bool, bv_sl, bv_fn, uv_not, uv_neg, eqV, nilV, nc_ptr, nc_fn, nc_if, Option.map_some, toN, Nat.mul_one, implies_true, true_and, and_true, and_self]
      refine stC_one hb8 (by simp [msgC]) rfl fun w16 hb16 hf16 => ?_
      have hA16 := hf16.keep hA8 (by omega)
      refine rd_of (v := .int .u32 m.bse) (cellOf hA16 rfl) ?_
      simp only [isB_i, isK_i, isP_i, isTup_i, isInt_i, isSl_i, isPtr_i, isCs_i, isStr_i, isFn_i, isIf_i, rd_i, br_t, br_f, orO_s, orO_n, gd_t, bv_add, bv_sub, bv_mul, bv_eql, bv_neq, bv_lss, bv_leq, bv_gtr, bv_geq, bv_quo, bv_rem, bv_shl, bv_shr, bv_seq, bv_sne, bv_ptr, bv_if, bv_map, bv_nf, bv_bool, bv_sl, bv_fn, uv_not, uv_neg, eqV, nilV, nc_ptr, nc_fn, nc_if, Option.map_some, toN, Nat.mul_one, implies_true, true_and, and_true, and_self]
      refine stC_one hb16 (by simp [msgC]) rfl fun w19 hb19 hf19 => ?_
      have hA19 := hf19.keep hA16 (by omega)
      refine rd_of (v := .slice q m.bytes.length c) (cellOf hA19 rfl) ?_
      simp only [isB_i, isK_i, isP_i, isTup_i, isInt_i, isSl_i, isPtr_i, isCs_i, isStr_i, isFn_i, isIf_i, rd_i, br_t, br_f, orO_s, orO_n, gd_t, bv_add, bv_sub, bv_mul, bv_eql, bv_neq, bv_lss, bv_leq, bv_gtr, bv_geq, bv_quo, bv_rem, bv_shl, bv_shr, bv_seq, bv_sne, bv_ptr, bv_if, bv_map, bv_nf, bv_bool, bv_sl, bv_fn, uv_not, uv_neg, eqV, nilV, nc_ptr, nc_fn, nc_if, Option.map_some, toN, Nat.mul_one, implies_true, true_and, and_true, and_self]
      refine stC_one hb19 (by simp [msgC]) rfl fun w22 hb22 hf22 => ?_
      have e : only m = { blank m.kind with tick := m.tick, bse := m.bse, bytes := m.bytes } := by unfold only; rw [if_neg k2, if_neg k3, if_neg k6, if_neg k7, if_neg k5, if_neg k8, if_pos k9]
      rw [e]
      have hf := (hf16.trans hf19).trans hf22
      exact ⟨q, c, hb22, hby8.keepN hf fun ad e hne => by have := hby.lt ad e hne; omega, hby.lt, hf⟩
    · exact done (x := blank m.kind) (by unfold only; rw [if_neg k2, if_neg k3, if_neg k6, if_neg k7, if_neg k5, if_neg k8, if_neg k9]) rfl hb8 (Fm.refl _ _)
  · rintro - w57 ⟨q', c', hx57, hby57, hlt57, hf57⟩
    refine rd_of (v := msgC (only m) q' c') (cells_all hx57 rfl) ?_
    refine rd_of (v := ()) rfl ?_
    have hO57 := hf57.keep hO8 (by omega)
    refine stC_all hO57 rfl msgC_one fun w60 hb60 hf60 => ?_
    refine rd_of (v := msgC (only m) q' c') (cells_all hb60 rfl) ?_
    refine ⟨q', c', rfl, hby57.keepN hf60 fun ad e hne => (by have := hlt57 ad e hne; omega), (hF8.trans' hf57 (by rintro i hi rfl; omega)).trans' hf60 (by rintro i hi rfl; omega)⟩
instance (m : Msg) : Decidable (fits m) := by unfold fits; infer_instance
/-- The words of Right, one by one. -/
theorem ref_iff {m : Msg} (hm : Mok m) (hl : m.bytes.length < 9223372036854775807) (ho : m = only m) (h1 : 1 ≤ m.kind) (h9 : m.kind ≤ 9) : rightM m = decide (fits m) := by
  rw [Bool.eq_iff_iff, right_iff hm hl, decide_eq_true_eq]
  exact ⟨fun h => h.2.1, fun h => ⟨⟨h1, h9⟩, h, ho⟩⟩
theorem only_bytes (m : Msg) : ∀ y ∈ (only m).bytes, y ∈ m.bytes := by
  unfold only
  repeat' split
  all_goals first | (intro y hy; exact hy) | (intro y hy; cases hy)
set_option maxRecDepth 20000 in
set_option maxHeartbeats 4000000 in
theorem right17_c {m : Msg} {q : Option Addr} {c : Nat} (hm : Mok m) (hl : m.bytes.length < 9223372036854775807) (hby : BytesAt w q m.bytes) :
    callV Try.prog 17 [.agg (msgC m q c).toArray] w fun v w' => v = .bool (rightM m) ∧ Fm none' w w' := by
  unfold msgC
  apply vc17
  refine allocC_of fun w1 hb1 hs1 hf1 => ?_
  change w1.heap[w.heap.size]? = some (.cells (msgC m q c).toArray 40 (0, 0)) at hb1
  obtain ⟨A, hA⟩ : ∃ A, A = w.heap.size := ⟨_, rfl⟩
  rw [← hA] at hb1 ⊢
  refine ⟨fun u w' => u 3 = .bool (decide (m = only m)) ∧ Fm none' w1 w', ?_, ?_⟩
  · have hb1' : w1.drew.heap[A]? = some (.cells (msgC m q c).toArray 40 (0, 0)) := hb1
    refine ⟨fun w' => w'.heap[A]? = some (.cells (msgC m q c).toArray 40 (0, 0)), hb1', ?_⟩
    refine rd_of (v := msgC m q c) (cells_all hb1' rfl) ⟨fun w' hw => rd_of (cells_all hw rfl) ⟨rfl, rfl⟩, ?_⟩
    refine rd_of (v := msgC m q c) (cells_all hb1' rfl) ⟨fun w' hw => rd_of (cells_all hw rfl) ⟨rfl, rfl⟩, ?_⟩
    have hby1 := hby.keep (hf1.trans (Fm.drew w1)) fun _ _ => id
    refine (only28_c hby1).mono ?_
    rintro _ w13 ⟨q', c', rfl, hby13, hf13⟩
    refine ⟨hf13.keep hb1' id, ?_⟩
    refine (same27_c (hby1.keep hf13 fun _ _ => id) hby13 hm.bytes fun y hy => hm.bytes y (only_bytes m y hy)).mono ?_
    rintro _ w15 ⟨rfl, hf15⟩
    simp only [isB_i, isK_i, isP_i, isTup_i, isInt_i, isSl_i, isPtr_i, isCs_i, isStr_i, isFn_i, isIf_i, rd_i, br_t, br_f, orO_s, orO_n, gd_t, bv_add, bv_sub, bv_mul, bv_eql, bv_neq, bv_lss, bv_leq, bv_gtr, bv_geq, bv_quo, bv_rem, bv_shl, bv_shr, bv_seq, bv_sne, bv_ptr, bv_if, bv_map, bv_nf, bv_bool, bv_sl, bv_fn, uv_not, uv_neg, eqV, nilV, nc_ptr, nc_fn, nc_if, Option.map_some, toN, Nat.mul_one, implies_true, true_and, and_true, and_self]
    exact ⟨hf15.keep (hf13.keep hb1' id) id, rfl, ((Fm.drew w1).trans hf13).trans hf15⟩
  rintro u w21 ⟨h3, hf21⟩
  change u 3 = _ at h3
  have h21 := hf21.keep hb1 id
  have hF21 := hf1.trans hf21
  have no : rightM m = false → Value.bool false = Value.bool (rightM m) ∧ Fm none' w w21 := fun h => ⟨by rw [h], hF21⟩
  simp only [h3, isB_i, isK_i, isP_i, isTup_i, isInt_i, isSl_i, isPtr_i, isCs_i, isStr_i, isFn_i, isIf_i, rd_i, br_t, br_f, orO_s, orO_n, gd_t, bv_add, bv_sub, bv_mul, bv_eql, bv_neq, bv_lss, bv_leq, bv_gtr, bv_geq, bv_quo, bv_rem, bv_shl, bv_shr, bv_seq, bv_sne, bv_ptr, bv_if, bv_map, bv_nf, bv_bool, bv_sl, bv_fn, uv_not, uv_neg, eqV, nilV, nc_ptr, nc_fn, nc_if, Option.map_some, toN, Nat.mul_one, implies_true, true_and, and_true, and_self]
  refine ⟨fun _ w' => (m = only m ∧ 1 ≤ m.kind ∧ m.kind ≤ 9) ∧ w' = w21, ?_, ?_⟩
  · refine br_ndec (fun h => no ?_) (fun ho => ?_)
    · cases hr : rightM m with
      | false => rfl
      | true => exact absurd ((right_iff hm hl).1 hr).2.2 h
    refine rd_of (v := .int .i64 m.kind) (cellOf h21 rfl) ?_
    simp only [isB_i, isK_i, isP_i, isTup_i, isInt_i, isSl_i, isPtr_i, isCs_i, isStr_i, isFn_i, isIf_i, rd_i, br_t, br_f, orO_s, orO_n, gd_t, bv_add, bv_sub, bv_mul, bv_eql, bv_neq, bv_lss, bv_leq, bv_gtr, bv_geq, bv_quo, bv_rem, bv_shl, bv_shr, bv_seq, bv_sne, bv_ptr, bv_if, bv_map, bv_nf, bv_bool, bv_sl, bv_fn, uv_not, uv_neg, eqV, nilV, nc_ptr, nc_fn, nc_if, Option.map_some, toN, Nat.mul_one, implies_true, true_and, and_true, and_self]
    refine br_dec (fun h => no ?_) (fun h1 => ?_)
    · cases hr : rightM m with
      | false => rfl
      | true => have := ((right_iff hm hl).1 hr).1; omega
    refine rd_of (v := .int .i64 m.kind) (cellOf h21 rfl) ?_
    simp only [isB_i, isK_i, isP_i, isTup_i, isInt_i, isSl_i, isPtr_i, isCs_i, isStr_i, isFn_i, isIf_i, rd_i, br_t, br_f, orO_s, orO_n, gd_t, bv_add, bv_sub, bv_mul, bv_eql, bv_neq, bv_lss, bv_leq, bv_gtr, bv_geq, bv_quo, bv_rem, bv_shl, bv_shr, bv_seq, bv_sne, bv_ptr, bv_if, bv_map, bv_nf, bv_bool, bv_sl, bv_fn, uv_not, uv_neg, eqV, nilV, nc_ptr, nc_fn, nc_if, Option.map_some, toN, Nat.mul_one, implies_true, true_and, and_true, and_self]
    refine br_dec (fun h => no ?_) (fun h9 => ⟨ho, by omega, by omega⟩)
    cases hr : rightM m with
    | false => rfl
    | true => have := ((right_iff hm hl).1 hr).1; omega
  rintro - w31 ⟨⟨ho, h1, h9⟩, e⟩
  obtain rfl : w21 = w31 := e.symm
  have hR := ref_iff hm hl ho h1 h9
  have fin : ∀ {t : Bool} {w' : World}, t = decide (fits m) → Fm none' w21 w' → Value.bool t = Value.bool (rightM m) ∧ Fm none' w w' := fun h hf => ⟨by rw [hR, h], hF21.trans hf⟩
  have r := Fm.refl none' w21
  refine rd_of (v := .int .i64 m.kind) (cellOf h21 rfl) ?_
  simp only [isB_i, isK_i, isP_i, isTup_i, isInt_i, isSl_i, isPtr_i, isCs_i, isStr_i, isFn_i, isIf_i, rd_i, br_t, br_f, orO_s, orO_n, gd_t, bv_add, bv_sub, bv_mul, bv_eql, bv_neq, bv_lss, bv_leq, bv_gtr, bv_geq, bv_quo, bv_rem, bv_shl, bv_shr, bv_seq, bv_sne, bv_ptr, bv_if, bv_map, bv_nf, bv_bool, bv_sl, bv_fn, uv_not, uv_neg, eqV, nilV, nc_ptr, nc_fn, nc_if, Option.map_some, toN, Nat.mul_one, implies_true, true_and, and_true, and_self]
  have ff : ∀ {P : Prop}, (fits m ↔ P) → ¬ P → false = decide (fits m) := fun h hp => (decide_eq_false (fun hf => hp (h.1 hf))).symm
  have tt : ∀ {P Q : Prop} [Decidable Q], (fits m ↔ P) → (Q ↔ P) → decide Q = decide (fits m) := fun h hq => decide_eq_decide.2 (hq.trans h.symm)
  refine br_dec (fun k2 => ?_) (fun k2 => ?_)
  · have hf : fits m ↔ m.cb < 4 ∧ 1 ≤ m.ct ∧ m.ct ≤ 8 := by unfold fits; rw [if_pos k2]
    refine rd_of (v := .int .u8 m.cb) (cellOf h21 rfl) ?_
    simp only [isB_i, isK_i, isP_i, isTup_i, isInt_i, isSl_i, isPtr_i, isCs_i, isStr_i, isFn_i, isIf_i, rd_i, br_t, br_f, orO_s, orO_n, gd_t, bv_add, bv_sub, bv_mul, bv_eql, bv_neq, bv_lss, bv_leq, bv_gtr, bv_geq, bv_quo, bv_rem, bv_shl, bv_shr, bv_seq, bv_sne, bv_ptr, bv_if, bv_map, bv_nf, bv_bool, bv_sl, bv_fn, uv_not, uv_neg, eqV, nilV, nc_ptr, nc_fn, nc_if, Option.map_some, toN, Nat.mul_one, implies_true, true_and, and_true, and_self]
    refine br_dec (fun a1 => ?_) (fun a1 => fin (ff hf (by omega)) r)
    refine rd_of (v := .int .i64 m.ct) (cellOf h21 rfl) ?_
    simp only [isB_i, isK_i, isP_i, isTup_i, isInt_i, isSl_i, isPtr_i, isCs_i, isStr_i, isFn_i, isIf_i, rd_i, br_t, br_f, orO_s, orO_n, gd_t, bv_add, bv_sub, bv_mul, bv_eql, bv_neq, bv_lss, bv_leq, bv_gtr, bv_geq, bv_quo, bv_rem, bv_shl, bv_shr, bv_seq, bv_sne, bv_ptr, bv_if, bv_map, bv_nf, bv_bool, bv_sl, bv_fn, uv_not, uv_neg, eqV, nilV, nc_ptr, nc_fn, nc_if, Option.map_some, toN, Nat.mul_one, implies_true, true_and, and_true, and_self]
    refine br_dec (fun a2 => ?_) (fun a2 => fin (ff hf (by omega)) r)
    refine rd_of (v := .int .i64 m.ct) (cellOf h21 rfl) ?_
    simp only [isB_i, isK_i, isP_i, isTup_i, isInt_i, isSl_i, isPtr_i, isCs_i, isStr_i, isFn_i, isIf_i, rd_i, br_t, br_f, orO_s, orO_n, gd_t, bv_add, bv_sub, bv_mul, bv_eql, bv_neq, bv_lss, bv_leq, bv_gtr, bv_geq, bv_quo, bv_rem, bv_shl, bv_shr, bv_seq, bv_sne, bv_ptr, bv_if, bv_map, bv_nf, bv_bool, bv_sl, bv_fn, uv_not, uv_neg, eqV, nilV, nc_ptr, nc_fn, nc_if, Option.map_some, toN, Nat.mul_one, implies_true, true_and, and_true, and_self]
    exact fin (tt hf (by omega)) r
  refine br_dec (fun k3 => ?_) (fun k3 => ?_)
  · have hf : fits m ↔ (0 ≤ m.shot ∧ m.shot ≤ 1) ∧ (-65536 ≤ m.d0 ∧ m.d0 ≤ 65536) ∧ (-65536 ≤ m.d1 ∧ m.d1 ≤ 65536) ∧ (-65536 ≤ m.d2 ∧ m.d2 ≤ 65536) := by unfold fits; rw [if_neg k2, if_pos k3]
    refine rd_of (v := .int .i64 m.shot) (cellOf h21 rfl) ?_
    simp only [isB_i, isK_i, isP_i, isTup_i, isInt_i, isSl_i, isPtr_i, isCs_i, isStr_i, isFn_i, isIf_i, rd_i, br_t, br_f, orO_s, orO_n, gd_t, bv_add, bv_sub, bv_mul, bv_eql, bv_neq, bv_lss, bv_leq, bv_gtr, bv_geq, bv_quo, bv_rem, bv_shl, bv_shr, bv_seq, bv_sne, bv_ptr, bv_if, bv_map, bv_nf, bv_bool, bv_sl, bv_fn, uv_not, uv_neg, eqV, nilV, nc_ptr, nc_fn, nc_if, Option.map_some, toN, Nat.mul_one, implies_true, true_and, and_true, and_self]
    refine br_dec (fun a1 => ?_) (fun a1 => ?_)
    · refine rd_of (v := ([.int .i64 m.d0, .int .i64 m.d1, .int .i64 m.d2] : List Value)) (cells_row h21 (by simp [msgC])) ?_
      refine far29_c.mono ?_
      rintro _ w45 ⟨rfl, hf45⟩
      simp only [isB_i, isK_i, isP_i, isTup_i, isInt_i, isSl_i, isPtr_i, isCs_i, isStr_i, isFn_i, isIf_i, rd_i, br_t, br_f, orO_s, orO_n, gd_t, bv_add, bv_sub, bv_mul, bv_eql, bv_neq, bv_lss, bv_leq, bv_gtr, bv_geq, bv_quo, bv_rem, bv_shl, bv_shr, bv_seq, bv_sne, bv_ptr, bv_if, bv_map, bv_nf, bv_bool, bv_sl, bv_fn, uv_not, uv_neg, eqV, nilV, nc_ptr, nc_fn, nc_if, Option.map_some, toN, Nat.mul_one, implies_true, true_and, and_true, and_self]
      exact fin (tt hf (by omega)) hf45
    · refine rd_of (v := .int .i64 m.shot) (cellOf h21 rfl) ?_
      simp only [isB_i, isK_i, isP_i, isTup_i, isInt_i, isSl_i, isPtr_i, isCs_i, isStr_i, isFn_i, isIf_i, rd_i, br_t, br_f, orO_s, orO_n, gd_t, bv_add, bv_sub, bv_mul, bv_eql, bv_neq, bv_lss, bv_leq, bv_gtr, bv_geq, bv_quo, bv_rem, bv_shl, bv_shr, bv_seq, bv_sne, bv_ptr, bv_if, bv_map, bv_nf, bv_bool, bv_sl, bv_fn, uv_not, uv_neg, eqV, nilV, nc_ptr, nc_fn, nc_if, Option.map_some, toN, Nat.mul_one, implies_true, true_and, and_true, and_self]
      refine br_dec (fun a2 => ?_) (fun a2 => fin (ff hf (by omega)) r)
      refine rd_of (v := ([.int .i64 m.d0, .int .i64 m.d1, .int .i64 m.d2] : List Value)) (cells_row h21 (by simp [msgC])) ?_
      refine far29_c.mono ?_
      rintro _ w45 ⟨rfl, hf45⟩
      simp only [isB_i, isK_i, isP_i, isTup_i, isInt_i, isSl_i, isPtr_i, isCs_i, isStr_i, isFn_i, isIf_i, rd_i, br_t, br_f, orO_s, orO_n, gd_t, bv_add, bv_sub, bv_mul, bv_eql, bv_neq, bv_lss, bv_leq, bv_gtr, bv_geq, bv_quo, bv_rem, bv_shl, bv_shr, bv_seq, bv_sne, bv_ptr, bv_if, bv_map, bv_nf, bv_bool, bv_sl, bv_fn, uv_not, uv_neg, eqV, nilV, nc_ptr, nc_fn, nc_if, Option.map_some, toN, Nat.mul_one, implies_true, true_and, and_true, and_self]
      exact fin (tt hf (by omega)) hf45
  refine br_dec (fun k5 => ?_) (fun k5 => ?_)
  · have hf : fits m ↔ 1 ≤ m.id ∧ m.id < 2147483648 := by unfold fits; rw [if_neg k2, if_neg k3, if_neg (by omega), if_neg (by omega), if_pos k5]
    refine rd_of (v := .int .i64 m.id) (cellOf h21 rfl) ?_
    simp only [isB_i, isK_i, isP_i, isTup_i, isInt_i, isSl_i, isPtr_i, isCs_i, isStr_i, isFn_i, isIf_i, rd_i, br_t, br_f, orO_s, orO_n, gd_t, bv_add, bv_sub, bv_mul, bv_eql, bv_neq, bv_lss, bv_leq, bv_gtr, bv_geq, bv_quo, bv_rem, bv_shl, bv_shr, bv_seq, bv_sne, bv_ptr, bv_if, bv_map, bv_nf, bv_bool, bv_sl, bv_fn, uv_not, uv_neg, eqV, nilV, nc_ptr, nc_fn, nc_if, Option.map_some, toN, Nat.mul_one, implies_true, true_and, and_true, and_self]
    refine br_dec (fun a1 => ?_) (fun a1 => fin (ff hf (by omega)) r)
    refine rd_of (v := .int .i64 m.id) (cellOf h21 rfl) ?_
    simp only [isB_i, isK_i, isP_i, isTup_i, isInt_i, isSl_i, isPtr_i, isCs_i, isStr_i, isFn_i, isIf_i, rd_i, br_t, br_f, orO_s, orO_n, gd_t, bv_add, bv_sub, bv_mul, bv_eql, bv_neq, bv_lss, bv_leq, bv_gtr, bv_geq, bv_quo, bv_rem, bv_shl, bv_shr, bv_seq, bv_sne, bv_ptr, bv_if, bv_map, bv_nf, bv_bool, bv_sl, bv_fn, uv_not, uv_neg, eqV, nilV, nc_ptr, nc_fn, nc_if, Option.map_some, toN, Nat.mul_one, implies_true, true_and, and_true, and_self]
    exact fin (tt hf (by omega)) r
  refine br_dec (fun k7 => ?_) (fun k7 => ?_)
  · have hf : fits m ↔ 1 ≤ m.id ∧ m.id < 2147483648 := by unfold fits; rw [if_neg k2, if_neg k3, if_neg (by omega), if_pos k7]
    refine rd_of (v := .int .i64 m.id) (cellOf h21 rfl) ?_
    simp only [isB_i, isK_i, isP_i, isTup_i, isInt_i, isSl_i, isPtr_i, isCs_i, isStr_i, isFn_i, isIf_i, rd_i, br_t, br_f, orO_s, orO_n, gd_t, bv_add, bv_sub, bv_mul, bv_eql, bv_neq, bv_lss, bv_leq, bv_gtr, bv_geq, bv_quo, bv_rem, bv_shl, bv_shr, bv_seq, bv_sne, bv_ptr, bv_if, bv_map, bv_nf, bv_bool, bv_sl, bv_fn, uv_not, uv_neg, eqV, nilV, nc_ptr, nc_fn, nc_if, Option.map_some, toN, Nat.mul_one, implies_true, true_and, and_true, and_self]
    refine br_dec (fun a1 => ?_) (fun a1 => fin (ff hf (by omega)) r)
    refine rd_of (v := .int .i64 m.id) (cellOf h21 rfl) ?_
    simp only [isB_i, isK_i, isP_i, isTup_i, isInt_i, isSl_i, isPtr_i, isCs_i, isStr_i, isFn_i, isIf_i, rd_i, br_t, br_f, orO_s, orO_n, gd_t, bv_add, bv_sub, bv_mul, bv_eql, bv_neq, bv_lss, bv_leq, bv_gtr, bv_geq, bv_quo, bv_rem, bv_shl, bv_shr, bv_seq, bv_sne, bv_ptr, bv_if, bv_map, bv_nf, bv_bool, bv_sl, bv_fn, uv_not, uv_neg, eqV, nilV, nc_ptr, nc_fn, nc_if, Option.map_some, toN, Nat.mul_one, implies_true, true_and, and_true, and_self]
    exact fin (tt hf (by omega)) r
  refine br_dec (fun k6 => ?_) (fun k6 => ?_)
  · have hf : fits m ↔ ((-2147483648 ≤ m.p0 ∧ m.p0 < 2147483648) ∧ (-2147483648 ≤ m.p1 ∧ m.p1 < 2147483648) ∧ (-2147483648 ≤ m.p2 ∧ m.p2 < 2147483648)) ∧
        ((-2147483648 ≤ m.v0 ∧ m.v0 < 2147483648) ∧ (-2147483648 ≤ m.v1 ∧ m.v1 < 2147483648) ∧ (-2147483648 ≤ m.v2 ∧ m.v2 < 2147483648)) := by unfold fits; rw [if_neg k2, if_neg k3, if_pos k6]
    refine rd_of (v := ([.int .i64 m.p0, .int .i64 m.p1, .int .i64 m.p2] : List Value)) (cells_row h21 (by simp [msgC])) ?_
    refine far29_c.mono ?_
    rintro _ w45 ⟨rfl, hf45⟩
    simp only [isB_i, isK_i, isP_i, isTup_i, isInt_i, isSl_i, isPtr_i, isCs_i, isStr_i, isFn_i, isIf_i, rd_i, br_t, br_f, orO_s, orO_n, gd_t, bv_add, bv_sub, bv_mul, bv_eql, bv_neq, bv_lss, bv_leq, bv_gtr, bv_geq, bv_quo, bv_rem, bv_shl, bv_shr, bv_seq, bv_sne, bv_ptr, bv_if, bv_map, bv_nf, bv_bool, bv_sl, bv_fn, uv_not, uv_neg, eqV, nilV, nc_ptr, nc_fn, nc_if, Option.map_some, toN, Nat.mul_one, implies_true, true_and, and_true, and_self]
    refine br_dec (fun a1 => ?_) (fun a1 => fin (ff hf (by omega)) hf45)
    refine rd_of (v := ([.int .i64 m.v0, .int .i64 m.v1, .int .i64 m.v2] : List Value)) (cells_row (hf45.keep h21 id) (by simp [msgC])) ?_
    refine far29_c.mono ?_
    rintro _ w46 ⟨rfl, hf46⟩
    simp only [isB_i, isK_i, isP_i, isTup_i, isInt_i, isSl_i, isPtr_i, isCs_i, isStr_i, isFn_i, isIf_i, rd_i, br_t, br_f, orO_s, orO_n, gd_t, bv_add, bv_sub, bv_mul, bv_eql, bv_neq, bv_lss, bv_leq, bv_gtr, bv_geq, bv_quo, bv_rem, bv_shl, bv_shr, bv_seq, bv_sne, bv_ptr, bv_if, bv_map, bv_nf, bv_bool, bv_sl, bv_fn, uv_not, uv_neg, eqV, nilV, nc_ptr, nc_fn, nc_if, Option.map_some, toN, Nat.mul_one, implies_true, true_and, and_true, and_self]
    exact fin (tt hf (by omega)) (hf45.trans hf46)
  refine br_dec (fun k8 => ?_) (fun k8 => ?_)
  · have hf : fits m ↔ 1 ≤ m.why ∧ m.why ≤ 10 := by unfold fits; rw [if_neg k2, if_neg k3, if_neg k6, if_neg k7, if_neg k5, if_pos k8]
    refine rd_of (v := .int .i64 m.why) (cellOf h21 rfl) ?_
    simp only [isB_i, isK_i, isP_i, isTup_i, isInt_i, isSl_i, isPtr_i, isCs_i, isStr_i, isFn_i, isIf_i, rd_i, br_t, br_f, orO_s, orO_n, gd_t, bv_add, bv_sub, bv_mul, bv_eql, bv_neq, bv_lss, bv_leq, bv_gtr, bv_geq, bv_quo, bv_rem, bv_shl, bv_shr, bv_seq, bv_sne, bv_ptr, bv_if, bv_map, bv_nf, bv_bool, bv_sl, bv_fn, uv_not, uv_neg, eqV, nilV, nc_ptr, nc_fn, nc_if, Option.map_some, toN, Nat.mul_one, implies_true, true_and, and_true, and_self]
    refine br_dec (fun a1 => ?_) (fun a1 => fin (ff hf (by omega)) r)
    refine rd_of (v := .int .i64 m.why) (cellOf h21 rfl) ?_
    simp only [isB_i, isK_i, isP_i, isTup_i, isInt_i, isSl_i, isPtr_i, isCs_i, isStr_i, isFn_i, isIf_i, rd_i, br_t, br_f, orO_s, orO_n, gd_t, bv_add, bv_sub, bv_mul, bv_eql, bv_neq, bv_lss, bv_leq, bv_gtr, bv_geq, bv_quo, bv_rem, bv_shl, bv_shr, bv_seq, bv_sne, bv_ptr, bv_if, bv_map, bv_nf, bv_bool, bv_sl, bv_fn, uv_not, uv_neg, eqV, nilV, nc_ptr, nc_fn, nc_if, Option.map_some, toN, Nat.mul_one, implies_true, true_and, and_true, and_self]
    exact fin (tt hf (by omega)) r
  refine br_dec (fun k9 => ?_) (fun k9 => ?_)
  · have hf : fits m ↔ m.bytes.length ≤ 1023 := by unfold fits; rw [if_neg k2, if_neg k3, if_neg k6, if_neg k7, if_neg k5, if_neg k8, if_pos k9]
    refine rd_of (v := .slice q m.bytes.length c) (cellOf h21 rfl) ?_
    simp only [isB_i, isK_i, isP_i, isTup_i, isInt_i, isSl_i, isPtr_i, isCs_i, isStr_i, isFn_i, isIf_i, rd_i, br_t, br_f, orO_s, orO_n, gd_t, bv_add, bv_sub, bv_mul, bv_eql, bv_neq, bv_lss, bv_leq, bv_gtr, bv_geq, bv_quo, bv_rem, bv_shl, bv_shr, bv_seq, bv_sne, bv_ptr, bv_if, bv_map, bv_nf, bv_bool, bv_sl, bv_fn, uv_not, uv_neg, eqV, nilV, nc_ptr, nc_fn, nc_if, Option.map_some, toN, Nat.mul_one, implies_true, true_and, and_true, and_self]
    exact fin (tt hf (by omega)) r
  · have hf : fits m := by unfold fits; rw [if_neg k2, if_neg k3, if_neg k6, if_neg k7, if_neg k5, if_neg k8, if_neg k9]; trivial
    exact fin (decide_eq_true hf).symm r
end Go.Proofs.Ytfekkdmnboccfaa
