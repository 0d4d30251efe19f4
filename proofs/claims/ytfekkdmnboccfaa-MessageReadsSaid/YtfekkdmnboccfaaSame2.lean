/- message: are two messages the same.  Conditions: their bytes may be read. -/
import Derived.Test.YtfekkdmnboccfaaSame
namespace Go.Proofs.Ytfekkdmnboccfaa
set_option linter.unusedSimpArgs false
set_option linter.unusedVariables false
open Go Go.RowKit VC
theorem eq5 {a0 a1 a2 a3 a4 b0 b1 b2 b3 b4 : Int} : eqL [0, 1, 2, 3, 4] [.int .u16 a0, .int .u8 a1, .int .i8 a2, .int .i8 a3, .int .i64 a4] [.int .u16 b0, .int .u8 b1, .int .i8 b2, .int .i8 b3, .int .i64 b4] = some (decide (a0 = b0) && (decide (a1 = b1) && (decide (a2 = b2) && (decide (a3 = b3) && (decide (a4 = b4) && true))))) := rfl
theorem eq3 {a0 a1 a2 b0 b1 b2 : Int} : eqL [0, 1, 2] [.int .i64 a0, .int .i64 a1, .int .i64 a2] [.int .i64 b0, .int .i64 b1, .int .i64 b2] = some (decide (a0 = b0) && (decide (a1 = b1) && (decide (a2 = b2) && true))) := rfl
theorem br_ndec' {t : Bool} {X Y : Prop} (h0 : t = false → X) (h1 : t = true → Y) : br (!t) X Y := by cases t; exact h0 rfl; exact h1 rfl
theorem br_b {t : Bool} {X Y : Prop} (h1 : t = true → X) (h0 : t = false → Y) : br t X Y := by cases t; exact h0 rfl; exact h1 rfl
variable {w : World}
set_option maxRecDepth 20000 in
set_option maxHeartbeats 2000000 in
theorem same26_c {a b : Msg} {p q : Option Addr} {cp cq : Nat} (ha : BytesAt w p a.bytes) (hb : BytesAt w q b.bytes) (hl : a.bytes.length ≤ 140737488355328) :
    callV Try.prog 26 [.agg (msgC a p cp).toArray, .agg (msgC b q cq).toArray] w fun v w' => v = .bool (decide (a = b)) ∧ Fm none' w w' := by
  unfold msgC
  apply vc26
  refine allocC_of fun w1 hb1 hs1 hf1 => allocC_of fun w3 hb3 hs3 hf3 => ?_
  rw [hs1] at hb3 ⊢
  have hF : Fm none' w w3 := hf1.trans hf3
  have h0 := hf3.keep hb1 id
  have no : a ≠ b → Value.bool false = Value.bool (decide (a = b)) ∧ Fm none' w w3 := fun h => ⟨by rw [decide_eq_false h], hF⟩
  have tl : ∀ {l : List Value} {n i : Nat} {X : Prop}, rd (some l) (fun _ => X) = X := rfl
  refine rd_of (v := .int .i64 a.kind) (cellOf h0 rfl) ?_
  simp only [isB_i, isK_i, isP_i, isTup_i, isInt_i, isSl_i, isPtr_i, isCs_i, isStr_i, isFn_i, isIf_i, rd_i, br_t, br_f, orO_s, orO_n, gd_t, bv_add, bv_sub, bv_mul, bv_eql, bv_neq, bv_lss, bv_leq, bv_gtr, bv_geq, bv_quo, bv_rem, bv_shl, bv_shr, bv_seq, bv_sne, bv_ptr, bv_if, bv_map, bv_nf, bv_bool, bv_sl, bv_fn, uv_not, uv_neg, eqV, nilV, nc_ptr, nc_fn, nc_if, Option.map_some, toN, Nat.mul_one, implies_true, true_and, and_true, and_self]
  refine rd_of (v := .int .i64 b.kind) (cellOf hb3 rfl) ?_
  simp only [isB_i, isK_i, isP_i, isTup_i, isInt_i, isSl_i, isPtr_i, isCs_i, isStr_i, isFn_i, isIf_i, rd_i, br_t, br_f, orO_s, orO_n, gd_t, bv_add, bv_sub, bv_mul, bv_eql, bv_neq, bv_lss, bv_leq, bv_gtr, bv_geq, bv_quo, bv_rem, bv_shl, bv_shr, bv_seq, bv_sne, bv_ptr, bv_if, bv_map, bv_nf, bv_bool, bv_sl, bv_fn, uv_not, uv_neg, eqV, nilV, nc_ptr, nc_fn, nc_if, Option.map_some, toN, Nat.mul_one, implies_true, true_and, and_true, and_self]
  refine br_dec (fun e0 => ?_) (fun e => no fun h => e (by rw [h]))
  refine rd_of (v := .int .u16 a.seq) (cellOf h0 rfl) ?_
  simp only [isB_i, isK_i, isP_i, isTup_i, isInt_i, isSl_i, isPtr_i, isCs_i, isStr_i, isFn_i, isIf_i, rd_i, br_t, br_f, orO_s, orO_n, gd_t, bv_add, bv_sub, bv_mul, bv_eql, bv_neq, bv_lss, bv_leq, bv_gtr, bv_geq, bv_quo, bv_rem, bv_shl, bv_shr, bv_seq, bv_sne, bv_ptr, bv_if, bv_map, bv_nf, bv_bool, bv_sl, bv_fn, uv_not, uv_neg, eqV, nilV, nc_ptr, nc_fn, nc_if, Option.map_some, toN, Nat.mul_one, implies_true, true_and, and_true, and_self]
  refine rd_of (v := .int .u16 b.seq) (cellOf hb3 rfl) ?_
  simp only [isB_i, isK_i, isP_i, isTup_i, isInt_i, isSl_i, isPtr_i, isCs_i, isStr_i, isFn_i, isIf_i, rd_i, br_t, br_f, orO_s, orO_n, gd_t, bv_add, bv_sub, bv_mul, bv_eql, bv_neq, bv_lss, bv_leq, bv_gtr, bv_geq, bv_quo, bv_rem, bv_shl, bv_shr, bv_seq, bv_sne, bv_ptr, bv_if, bv_map, bv_nf, bv_bool, bv_sl, bv_fn, uv_not, uv_neg, eqV, nilV, nc_ptr, nc_fn, nc_if, Option.map_some, toN, Nat.mul_one, implies_true, true_and, and_true, and_self]
  refine br_dec (fun e1 => ?_) (fun e => no fun h => e (by rw [h]))
  refine rd_of (v := ([.int .u16 a.cq, .int .u8 a.cb, .int .i8 a.cdx, .int .i8 a.cdy, .int .i64 a.ct] : List Value)) (cells_row h0 (by simp)) ?_
  refine rd_of (v := ([.int .u16 b.cq, .int .u8 b.cb, .int .i8 b.cdx, .int .i8 b.cdy, .int .i64 b.ct] : List Value)) (cells_row hb3 (by simp)) ?_
  rw [eq5]
  simp only [isB_i, isK_i, isP_i, isTup_i, isInt_i, isSl_i, isPtr_i, isCs_i, isStr_i, isFn_i, isIf_i, rd_i, br_t, br_f, orO_s, orO_n, gd_t, bv_add, bv_sub, bv_mul, bv_eql, bv_neq, bv_lss, bv_leq, bv_gtr, bv_geq, bv_quo, bv_rem, bv_shl, bv_shr, bv_seq, bv_sne, bv_ptr, bv_if, bv_map, bv_nf, bv_bool, bv_sl, bv_fn, uv_not, uv_neg, eqV, nilV, nc_ptr, nc_fn, nc_if, Option.map_some, toN, Nat.mul_one, implies_true, true_and, and_true, and_self]
  refine br_b (fun e2 => ?_) (fun e => no fun h => by rw [h] at e; simp at e)
  simp only [Bool.and_eq_true, decide_eq_true_eq] at e2
  refine rd_of (v := .int .u16 a.prov) (cellOf h0 rfl) ?_
  simp only [isB_i, isK_i, isP_i, isTup_i, isInt_i, isSl_i, isPtr_i, isCs_i, isStr_i, isFn_i, isIf_i, rd_i, br_t, br_f, orO_s, orO_n, gd_t, bv_add, bv_sub, bv_mul, bv_eql, bv_neq, bv_lss, bv_leq, bv_gtr, bv_geq, bv_quo, bv_rem, bv_shl, bv_shr, bv_seq, bv_sne, bv_ptr, bv_if, bv_map, bv_nf, bv_bool, bv_sl, bv_fn, uv_not, uv_neg, eqV, nilV, nc_ptr, nc_fn, nc_if, Option.map_some, toN, Nat.mul_one, implies_true, true_and, and_true, and_self]
  refine rd_of (v := .int .u16 b.prov) (cellOf hb3 rfl) ?_
  simp only [isB_i, isK_i, isP_i, isTup_i, isInt_i, isSl_i, isPtr_i, isCs_i, isStr_i, isFn_i, isIf_i, rd_i, br_t, br_f, orO_s, orO_n, gd_t, bv_add, bv_sub, bv_mul, bv_eql, bv_neq, bv_lss, bv_leq, bv_gtr, bv_geq, bv_quo, bv_rem, bv_shl, bv_shr, bv_seq, bv_sne, bv_ptr, bv_if, bv_map, bv_nf, bv_bool, bv_sl, bv_fn, uv_not, uv_neg, eqV, nilV, nc_ptr, nc_fn, nc_if, Option.map_some, toN, Nat.mul_one, implies_true, true_and, and_true, and_self]
  refine br_dec (fun e3 => ?_) (fun e => no fun h => e (by rw [h]))
  refine rd_of (v := .int .i64 a.id) (cellOf h0 rfl) ?_
  simp only [isB_i, isK_i, isP_i, isTup_i, isInt_i, isSl_i, isPtr_i, isCs_i, isStr_i, isFn_i, isIf_i, rd_i, br_t, br_f, orO_s, orO_n, gd_t, bv_add, bv_sub, bv_mul, bv_eql, bv_neq, bv_lss, bv_leq, bv_gtr, bv_geq, bv_quo, bv_rem, bv_shl, bv_shr, bv_seq, bv_sne, bv_ptr, bv_if, bv_map, bv_nf, bv_bool, bv_sl, bv_fn, uv_not, uv_neg, eqV, nilV, nc_ptr, nc_fn, nc_if, Option.map_some, toN, Nat.mul_one, implies_true, true_and, and_true, and_self]
  refine rd_of (v := .int .i64 b.id) (cellOf hb3 rfl) ?_
  simp only [isB_i, isK_i, isP_i, isTup_i, isInt_i, isSl_i, isPtr_i, isCs_i, isStr_i, isFn_i, isIf_i, rd_i, br_t, br_f, orO_s, orO_n, gd_t, bv_add, bv_sub, bv_mul, bv_eql, bv_neq, bv_lss, bv_leq, bv_gtr, bv_geq, bv_quo, bv_rem, bv_shl, bv_shr, bv_seq, bv_sne, bv_ptr, bv_if, bv_map, bv_nf, bv_bool, bv_sl, bv_fn, uv_not, uv_neg, eqV, nilV, nc_ptr, nc_fn, nc_if, Option.map_some, toN, Nat.mul_one, implies_true, true_and, and_true, and_self]
  refine br_dec (fun e4 => ?_) (fun e => no fun h => e (by rw [h]))
  refine rd_of (v := .int .i64 a.shot) (cellOf h0 rfl) ?_
  simp only [isB_i, isK_i, isP_i, isTup_i, isInt_i, isSl_i, isPtr_i, isCs_i, isStr_i, isFn_i, isIf_i, rd_i, br_t, br_f, orO_s, orO_n, gd_t, bv_add, bv_sub, bv_mul, bv_eql, bv_neq, bv_lss, bv_leq, bv_gtr, bv_geq, bv_quo, bv_rem, bv_shl, bv_shr, bv_seq, bv_sne, bv_ptr, bv_if, bv_map, bv_nf, bv_bool, bv_sl, bv_fn, uv_not, uv_neg, eqV, nilV, nc_ptr, nc_fn, nc_if, Option.map_some, toN, Nat.mul_one, implies_true, true_and, and_true, and_self]
  refine rd_of (v := .int .i64 b.shot) (cellOf hb3 rfl) ?_
  simp only [isB_i, isK_i, isP_i, isTup_i, isInt_i, isSl_i, isPtr_i, isCs_i, isStr_i, isFn_i, isIf_i, rd_i, br_t, br_f, orO_s, orO_n, gd_t, bv_add, bv_sub, bv_mul, bv_eql, bv_neq, bv_lss, bv_leq, bv_gtr, bv_geq, bv_quo, bv_rem, bv_shl, bv_shr, bv_seq, bv_sne, bv_ptr, bv_if, bv_map, bv_nf, bv_bool, bv_sl, bv_fn, uv_not, uv_neg, eqV, nilV, nc_ptr, nc_fn, nc_if, Option.map_some, toN, Nat.mul_one, implies_true, true_and, and_true, and_self]
  refine br_dec (fun e5 => ?_) (fun e => no fun h => e (by rw [h]))
  refine rd_of (v := ([.int .i64 a.d0, .int .i64 a.d1, .int .i64 a.d2] : List Value)) (cells_row h0 (by simp)) ?_
  refine rd_of (v := ([.int .i64 b.d0, .int .i64 b.d1, .int .i64 b.d2] : List Value)) (cells_row hb3 (by simp)) ?_
  rw [eq3]
  simp only [isB_i, isK_i, isP_i, isTup_i, isInt_i, isSl_i, isPtr_i, isCs_i, isStr_i, isFn_i, isIf_i, rd_i, br_t, br_f, orO_s, orO_n, gd_t, bv_add, bv_sub, bv_mul, bv_eql, bv_neq, bv_lss, bv_leq, bv_gtr, bv_geq, bv_quo, bv_rem, bv_shl, bv_shr, bv_seq, bv_sne, bv_ptr, bv_if, bv_map, bv_nf, bv_bool, bv_sl, bv_fn, uv_not, uv_neg, eqV, nilV, nc_ptr, nc_fn, nc_if, Option.map_some, toN, Nat.mul_one, implies_true, true_and, and_true, and_self]
  refine br_b (fun e6 => ?_) (fun e => no fun h => by rw [h] at e; simp at e)
  simp only [Bool.and_eq_true, decide_eq_true_eq] at e6
  refine rd_of (v := .int .i64 a.why) (cellOf h0 rfl) ?_
  simp only [isB_i, isK_i, isP_i, isTup_i, isInt_i, isSl_i, isPtr_i, isCs_i, isStr_i, isFn_i, isIf_i, rd_i, br_t, br_f, orO_s, orO_n, gd_t, bv_add, bv_sub, bv_mul, bv_eql, bv_neq, bv_lss, bv_leq, bv_gtr, bv_geq, bv_quo, bv_rem, bv_shl, bv_shr, bv_seq, bv_sne, bv_ptr, bv_if, bv_map, bv_nf, bv_bool, bv_sl, bv_fn, uv_not, uv_neg, eqV, nilV, nc_ptr, nc_fn, nc_if, Option.map_some, toN, Nat.mul_one, implies_true, true_and, and_true, and_self]
  refine rd_of (v := .int .i64 b.why) (cellOf hb3 rfl) ?_
  simp only [isB_i, isK_i, isP_i, isTup_i, isInt_i, isSl_i, isPtr_i, isCs_i, isStr_i, isFn_i, isIf_i, rd_i, br_t, br_f, orO_s, orO_n, gd_t, bv_add, bv_sub, bv_mul, bv_eql, bv_neq, bv_lss, bv_leq, bv_gtr, bv_geq, bv_quo, bv_rem, bv_shl, bv_shr, bv_seq, bv_sne, bv_ptr, bv_if, bv_map, bv_nf, bv_bool, bv_sl, bv_fn, uv_not, uv_neg, eqV, nilV, nc_ptr, nc_fn, nc_if, Option.map_some, toN, Nat.mul_one, implies_true, true_and, and_true, and_self]
  refine br_dec (fun e7 => ?_) (fun e => no fun h => e (by rw [h]))
  refine rd_of (v := ([.int .i64 a.p0, .int .i64 a.p1, .int .i64 a.p2] : List Value)) (cells_row h0 (by simp)) ?_
  refine rd_of (v := ([.int .i64 b.p0, .int .i64 b.p1, .int .i64 b.p2] : List Value)) (cells_row hb3 (by simp)) ?_
  rw [eq3]
  simp only [isB_i, isK_i, isP_i, isTup_i, isInt_i, isSl_i, isPtr_i, isCs_i, isStr_i, isFn_i, isIf_i, rd_i, br_t, br_f, orO_s, orO_n, gd_t, bv_add, bv_sub, bv_mul, bv_eql, bv_neq, bv_lss, bv_leq, bv_gtr, bv_geq, bv_quo, bv_rem, bv_shl, bv_shr, bv_seq, bv_sne, bv_ptr, bv_if, bv_map, bv_nf, bv_bool, bv_sl, bv_fn, uv_not, uv_neg, eqV, nilV, nc_ptr, nc_fn, nc_if, Option.map_some, toN, Nat.mul_one, implies_true, true_and, and_true, and_self]
  refine br_b (fun e8 => ?_) (fun e => no fun h => by rw [h] at e; simp at e)
  simp only [Bool.and_eq_true, decide_eq_true_eq] at e8
  refine rd_of (v := ([.int .i64 a.v0, .int .i64 a.v1, .int .i64 a.v2] : List Value)) (cells_row h0 (by simp)) ?_
  refine rd_of (v := ([.int .i64 b.v0, .int .i64 b.v1, .int .i64 b.v2] : List Value)) (cells_row hb3 (by simp)) ?_
  rw [eq3]
  simp only [isB_i, isK_i, isP_i, isTup_i, isInt_i, isSl_i, isPtr_i, isCs_i, isStr_i, isFn_i, isIf_i, rd_i, br_t, br_f, orO_s, orO_n, gd_t, bv_add, bv_sub, bv_mul, bv_eql, bv_neq, bv_lss, bv_leq, bv_gtr, bv_geq, bv_quo, bv_rem, bv_shl, bv_shr, bv_seq, bv_sne, bv_ptr, bv_if, bv_map, bv_nf, bv_bool, bv_sl, bv_fn, uv_not, uv_neg, eqV, nilV, nc_ptr, nc_fn, nc_if, Option.map_some, toN, Nat.mul_one, implies_true, true_and, and_true, and_self]
  refine br_b (fun e9 => ?_) (fun e => no fun h => by rw [h] at e; simp at e)
  simp only [Bool.and_eq_true, decide_eq_true_eq] at e9
  refine rd_of (v := .int .u32 a.tick) (cellOf h0 rfl) ?_
  simp only [isB_i, isK_i, isP_i, isTup_i, isInt_i, isSl_i, isPtr_i, isCs_i, isStr_i, isFn_i, isIf_i, rd_i, br_t, br_f, orO_s, orO_n, gd_t, bv_add, bv_sub, bv_mul, bv_eql, bv_neq, bv_lss, bv_leq, bv_gtr, bv_geq, bv_quo, bv_rem, bv_shl, bv_shr, bv_seq, bv_sne, bv_ptr, bv_if, bv_map, bv_nf, bv_bool, bv_sl, bv_fn, uv_not, uv_neg, eqV, nilV, nc_ptr, nc_fn, nc_if, Option.map_some, toN, Nat.mul_one, implies_true, true_and, and_true, and_self]
  refine rd_of (v := .int .u32 b.tick) (cellOf hb3 rfl) ?_
  simp only [isB_i, isK_i, isP_i, isTup_i, isInt_i, isSl_i, isPtr_i, isCs_i, isStr_i, isFn_i, isIf_i, rd_i, br_t, br_f, orO_s, orO_n, gd_t, bv_add, bv_sub, bv_mul, bv_eql, bv_neq, bv_lss, bv_leq, bv_gtr, bv_geq, bv_quo, bv_rem, bv_shl, bv_shr, bv_seq, bv_sne, bv_ptr, bv_if, bv_map, bv_nf, bv_bool, bv_sl, bv_fn, uv_not, uv_neg, eqV, nilV, nc_ptr, nc_fn, nc_if, Option.map_some, toN, Nat.mul_one, implies_true, true_and, and_true, and_self]
  refine br_dec (fun e10 => ?_) (fun e => no fun h => e (by rw [h]))
  refine rd_of (v := .int .u32 a.bse) (cellOf h0 rfl) ?_
  simp only [isB_i, isK_i, isP_i, isTup_i, isInt_i, isSl_i, isPtr_i, isCs_i, isStr_i, isFn_i, isIf_i, rd_i, br_t, br_f, orO_s, orO_n, gd_t, bv_add, bv_sub, bv_mul, bv_eql, bv_neq, bv_lss, bv_leq, bv_gtr, bv_geq, bv_quo, bv_rem, bv_shl, bv_shr, bv_seq, bv_sne, bv_ptr, bv_if, bv_map, bv_nf, bv_bool, bv_sl, bv_fn, uv_not, uv_neg, eqV, nilV, nc_ptr, nc_fn, nc_if, Option.map_some, toN, Nat.mul_one, implies_true, true_and, and_true, and_self]
  refine rd_of (v := .int .u32 b.bse) (cellOf hb3 rfl) ?_
  simp only [isB_i, isK_i, isP_i, isTup_i, isInt_i, isSl_i, isPtr_i, isCs_i, isStr_i, isFn_i, isIf_i, rd_i, br_t, br_f, orO_s, orO_n, gd_t, bv_add, bv_sub, bv_mul, bv_eql, bv_neq, bv_lss, bv_leq, bv_gtr, bv_geq, bv_quo, bv_rem, bv_shl, bv_shr, bv_seq, bv_sne, bv_ptr, bv_if, bv_map, bv_nf, bv_bool, bv_sl, bv_fn, uv_not, uv_neg, eqV, nilV, nc_ptr, nc_fn, nc_if, Option.map_some, toN, Nat.mul_one, implies_true, true_and, and_true, and_self]
  refine br_dec (fun e11 => ?_) (fun e => no fun h => e (by rw [h]))
  refine rd_of (v := .slice p a.bytes.length cp) (cellOf h0 rfl) ?_
  simp only [isB_i, isK_i, isP_i, isTup_i, isInt_i, isSl_i, isPtr_i, isCs_i, isStr_i, isFn_i, isIf_i, rd_i, br_t, br_f, orO_s, orO_n, gd_t, bv_add, bv_sub, bv_mul, bv_eql, bv_neq, bv_lss, bv_leq, bv_gtr, bv_geq, bv_quo, bv_rem, bv_shl, bv_shr, bv_seq, bv_sne, bv_ptr, bv_if, bv_map, bv_nf, bv_bool, bv_sl, bv_fn, uv_not, uv_neg, eqV, nilV, nc_ptr, nc_fn, nc_if, Option.map_some, toN, Nat.mul_one, implies_true, true_and, and_true, and_self]
  refine rd_of (v := .slice q b.bytes.length cq) (cellOf hb3 rfl) ?_
  simp only [isB_i, isK_i, isP_i, isTup_i, isInt_i, isSl_i, isPtr_i, isCs_i, isStr_i, isFn_i, isIf_i, rd_i, br_t, br_f, orO_s, orO_n, gd_t, bv_add, bv_sub, bv_mul, bv_eql, bv_neq, bv_lss, bv_leq, bv_gtr, bv_geq, bv_quo, bv_rem, bv_shl, bv_shr, bv_seq, bv_sne, bv_ptr, bv_if, bv_map, bv_nf, bv_bool, bv_sl, bv_fn, uv_not, uv_neg, eqV, nilV, nc_ptr, nc_fn, nc_if, Option.map_some, toN, Nat.mul_one, implies_true, true_and, and_true, and_self]
  refine (equal50_c (ha.keep hF fun _ _ => id) (hb.keep hF fun _ _ => id) hl).mono ?_
  rintro _ w61 ⟨rfl, hf⟩
  refine ⟨?_, hF.trans hf⟩
  congr 1
  rw [decide_eq_decide]
  constructor
  · intro h
    rw [← sameP_iff]
    unfold sameP
    refine ⟨e0, e1, e2.1, e2.2.1, e2.2.2.1, e2.2.2.2.1, e2.2.2.2.2.1, e3, e4, e5, e6.1, e6.2.1, e6.2.2.1, e7, e8.1, e8.2.1, e8.2.2.1, e9.1, e9.2.1, e9.2.2.1, e10, e11, h⟩
  · intro h; rw [h]
end Go.Proofs.Ytfekkdmnboccfaa
