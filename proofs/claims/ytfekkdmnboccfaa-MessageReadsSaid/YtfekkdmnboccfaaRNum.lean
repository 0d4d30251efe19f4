/- message: number of a reader.  Conditions: the reader lies as it is said to lie; the field is a cell of another block. -/
import Derived.Test.YtfekkdmnboccfaaRd2
namespace Go.Proofs.Ytfekkdmnboccfaa
set_option linter.unusedSimpArgs false
set_option linter.unusedVariables false
open Go Go.RowKit VC
theorem rmeth_whole {v : Value} {w : World} {K : FuncId → Value → Prop} (k : K 87 v) : methV Try.prog 65 v "embrasure/message.whole" w K := ⟨87, v, by kernel_rfl, k⟩
theorem rmeth_signed {v : Value} {w : World} {K : FuncId → Value → Prop} (k : K 86 v) : methV Try.prog 65 v "embrasure/message.signed" w K := ⟨86, v, by kernel_rfl, k⟩
theorem rmeth_within {v : Value} {w : World} {K : FuncId → Value → Prop} (k : K 31 v) : methV Try.prog 65 v "embrasure/message.within" w K := ⟨31, v, by kernel_rfl, k⟩
theorem rmeth_bytes {v : Value} {w : World} {K : FuncId → Value → Prop} (k : K 85 v) : methV Try.prog 65 v "embrasure/message.bytes" w K := ⟨85, v, by kernel_rfl, k⟩
theorem rnila_within {a : Addr} {w : World} {K : Prop} (k : K) : nilA Try.prog 65 (.pointer (some a)) "embrasure/message.within" w K := ⟨by kernel_rfl, k⟩
theorem rnila_bytes {a : Addr} {w : World} {K : Prop} (k : K) : nilA Try.prog 65 (.pointer (some a)) "embrasure/message.bytes" w K := ⟨by kernel_rfl, k⟩
abbrev rv (A : Nat) : Value := .iface 65 (.pointer (some ⟨A, 0, none⟩))
variable {w : World} {base A R : Nat} {g : Option Nat} {s : RS}
theorem rnum30_c {B i tB : Nat} {C : Array Value} {x : Int} {k : Nat} (hk : k ≤ 64) (h : RdAt w base A R s g) (hB : w.heap[B]? = some (.cells C tB (0, 0))) (hi : C[i]? = some (.int .i64 x)) (hBA : B ≠ A) (hBR : B ≠ R) (hBg : g ≠ some B) :
    callV Try.prog 30 [rv A, .pointer (some ⟨B, i, none⟩), .int .i64 k] w (RdP base A R B tB g w (rdW k s).2 (C.setIfInBounds i (.int .i64 (IntKind.i64.wrap (rdW k s).1)))) := by
  refine vc30 _ ⟨B, i, none⟩ k w _ (rd_of (v := .int .i64 x) (cellOf hB hi) ?_)
  simp only [isB_i, isK_i, isP_i, isTup_i, isInt_i, isSl_i, isPtr_i, isCs_i, isStr_i, isFn_i, isIf_i, rd_i, br_t, br_f, orO_s, orO_n, gd_t, bv_add, bv_sub, bv_mul, bv_eql, bv_neq, bv_lss, bv_leq, bv_gtr, bv_geq, bv_quo, bv_rem, bv_shl, bv_shr, bv_seq, bv_sne, bv_ptr, bv_if, bv_map, bv_nf, bv_bool, bv_sl, bv_fn, uv_not, uv_neg, eqV, nilV, nc_ptr, nc_fn, nc_if, Option.map_some, toN, Nat.mul_one, implies_true, true_and, and_true, and_self]
  refine allocC_of fun w3 hb3 hs3 hf3 => ?_
  refine stC_one hb3 (by simp) rfl fun w4 hb4 hf4 => ?_
  have hF4 : Fm none' w w4 := hf3.trans' hf4 (by rintro i hi rfl; omega)
  have hl := h.lt
  have hw4 := h.keep hF4 id id fun _ _ y => y
  have hBl := lt_of_blk hB
  refine rmeth_whole ?_
  refine (whole87_c hk hw4 hb4 (by simp) (by omega) (by omega) (by intro e; have := hl.2.2 _ e; omega)).mono ?_
  rintro _ w10 ⟨rfl, h10, hb10, hf10⟩
  refine rd_of (v := .int .u64 (rdW k s).1) (cellOf hb10 rfl) ?_
  simp only [isB_i, isK_i, isP_i, isTup_i, isInt_i, isSl_i, isPtr_i, isCs_i, isStr_i, isFn_i, isIf_i, rd_i, br_t, br_f, orO_s, orO_n, gd_t, bv_add, bv_sub, bv_mul, bv_eql, bv_neq, bv_lss, bv_leq, bv_gtr, bv_geq, bv_quo, bv_rem, bv_shl, bv_shr, bv_seq, bv_sne, bv_ptr, bv_if, bv_map, bv_nf, bv_bool, bv_sl, bv_fn, uv_not, uv_neg, eqV, nilV, nc_ptr, nc_fn, nc_if, Option.map_some, toN, Nat.mul_one, implies_true, true_and, and_true, and_self]
  have hB10 := hf10.keep (hF4.keep hB id) (by rintro (e | e | e); exact hBA e; exact hBR e; omega)
  refine stC_one hB10 (Array.getElem?_eq_some_iff.1 hi).1 rfl fun w13 hB13 hf13 => ⟨rfl, h10.keep hf13 (fun e => hBA e.symm) (fun e => hBR e.symm) (fun j hj e => hBg (by rw [hj, e])), hB13, ?_⟩
  refine (hF4.none.trans' hf10 ?_).trans' hf13 ?_
  · rintro j hj (e | e | e)
    · exact .inl e
    · exact .inr (.inl e)
    · omega
  · rintro j hj e; exact .inr (.inr e)
theorem rnum41_c {B i tB : Nat} {C : Array Value} {x : Int} {k : Nat} (hk : k ≤ 64) (h : RdAt w base A R s g) (hB : w.heap[B]? = some (.cells C tB (0, 0))) (hi : C[i]? = some (.int .u16 x)) (hBA : B ≠ A) (hBR : B ≠ R) (hBg : g ≠ some B) :
    callV Try.prog 41 [rv A, .pointer (some ⟨B, i, none⟩), .int .i64 k] w (RdP base A R B tB g w (rdW k s).2 (C.setIfInBounds i (.int .u16 (IntKind.u16.wrap (rdW k s).1)))) := by
  refine vc41 _ ⟨B, i, none⟩ k w _ (rd_of (v := .int .u16 x) (cellOf hB hi) ?_)
  simp only [isB_i, isK_i, isP_i, isTup_i, isInt_i, isSl_i, isPtr_i, isCs_i, isStr_i, isFn_i, isIf_i, rd_i, br_t, br_f, orO_s, orO_n, gd_t, bv_add, bv_sub, bv_mul, bv_eql, bv_neq, bv_lss, bv_leq, bv_gtr, bv_geq, bv_quo, bv_rem, bv_shl, bv_shr, bv_seq, bv_sne, bv_ptr, bv_if, bv_map, bv_nf, bv_bool, bv_sl, bv_fn, uv_not, uv_neg, eqV, nilV, nc_ptr, nc_fn, nc_if, Option.map_some, toN, Nat.mul_one, implies_true, true_and, and_true, and_self]
  refine allocC_of fun w3 hb3 hs3 hf3 => ?_
  refine stC_one hb3 (by simp) rfl fun w4 hb4 hf4 => ?_
  have hF4 : Fm none' w w4 := hf3.trans' hf4 (by rintro i hi rfl; omega)
  have hl := h.lt
  have hw4 := h.keep hF4 id id fun _ _ y => y
  have hBl := lt_of_blk hB
  refine rmeth_whole ?_
  refine (whole87_c hk hw4 hb4 (by simp) (by omega) (by omega) (by intro e; have := hl.2.2 _ e; omega)).mono ?_
  rintro _ w10 ⟨rfl, h10, hb10, hf10⟩
  refine rd_of (v := .int .u64 (rdW k s).1) (cellOf hb10 rfl) ?_
  simp only [isB_i, isK_i, isP_i, isTup_i, isInt_i, isSl_i, isPtr_i, isCs_i, isStr_i, isFn_i, isIf_i, rd_i, br_t, br_f, orO_s, orO_n, gd_t, bv_add, bv_sub, bv_mul, bv_eql, bv_neq, bv_lss, bv_leq, bv_gtr, bv_geq, bv_quo, bv_rem, bv_shl, bv_shr, bv_seq, bv_sne, bv_ptr, bv_if, bv_map, bv_nf, bv_bool, bv_sl, bv_fn, uv_not, uv_neg, eqV, nilV, nc_ptr, nc_fn, nc_if, Option.map_some, toN, Nat.mul_one, implies_true, true_and, and_true, and_self]
  have hB10 := hf10.keep (hF4.keep hB id) (by rintro (e | e | e); exact hBA e; exact hBR e; omega)
  refine stC_one hB10 (Array.getElem?_eq_some_iff.1 hi).1 rfl fun w13 hB13 hf13 => ⟨rfl, h10.keep hf13 (fun e => hBA e.symm) (fun e => hBR e.symm) (fun j hj e => hBg (by rw [hj, e])), hB13, ?_⟩
  refine (hF4.none.trans' hf10 ?_).trans' hf13 ?_
  · rintro j hj (e | e | e)
    · exact .inl e
    · exact .inr (.inl e)
    · omega
  · rintro j hj e; exact .inr (.inr e)
theorem rnum44_c {B i tB : Nat} {C : Array Value} {x : Int} {k : Nat} (hk : k ≤ 64) (h : RdAt w base A R s g) (hB : w.heap[B]? = some (.cells C tB (0, 0))) (hi : C[i]? = some (.int .i64 x)) (hBA : B ≠ A) (hBR : B ≠ R) (hBg : g ≠ some B) :
    callV Try.prog 44 [rv A, .pointer (some ⟨B, i, none⟩), .int .i64 k] w (RdP base A R B tB g w (rdW k s).2 (C.setIfInBounds i (.int .i64 (IntKind.i64.wrap (rdW k s).1)))) := by
  refine vc44 _ ⟨B, i, none⟩ k w _ (rd_of (v := .int .i64 x) (cellOf hB hi) ?_)
  simp only [isB_i, isK_i, isP_i, isTup_i, isInt_i, isSl_i, isPtr_i, isCs_i, isStr_i, isFn_i, isIf_i, rd_i, br_t, br_f, orO_s, orO_n, gd_t, bv_add, bv_sub, bv_mul, bv_eql, bv_neq, bv_lss, bv_leq, bv_gtr, bv_geq, bv_quo, bv_rem, bv_shl, bv_shr, bv_seq, bv_sne, bv_ptr, bv_if, bv_map, bv_nf, bv_bool, bv_sl, bv_fn, uv_not, uv_neg, eqV, nilV, nc_ptr, nc_fn, nc_if, Option.map_some, toN, Nat.mul_one, implies_true, true_and, and_true, and_self]
  refine allocC_of fun w3 hb3 hs3 hf3 => ?_
  refine stC_one hb3 (by simp) rfl fun w4 hb4 hf4 => ?_
  have hF4 : Fm none' w w4 := hf3.trans' hf4 (by rintro i hi rfl; omega)
  have hl := h.lt
  have hw4 := h.keep hF4 id id fun _ _ y => y
  have hBl := lt_of_blk hB
  refine rmeth_whole ?_
  refine (whole87_c hk hw4 hb4 (by simp) (by omega) (by omega) (by intro e; have := hl.2.2 _ e; omega)).mono ?_
  rintro _ w10 ⟨rfl, h10, hb10, hf10⟩
  refine rd_of (v := .int .u64 (rdW k s).1) (cellOf hb10 rfl) ?_
  simp only [isB_i, isK_i, isP_i, isTup_i, isInt_i, isSl_i, isPtr_i, isCs_i, isStr_i, isFn_i, isIf_i, rd_i, br_t, br_f, orO_s, orO_n, gd_t, bv_add, bv_sub, bv_mul, bv_eql, bv_neq, bv_lss, bv_leq, bv_gtr, bv_geq, bv_quo, bv_rem, bv_shl, bv_shr, bv_seq, bv_sne, bv_ptr, bv_if, bv_map, bv_nf, bv_bool, bv_sl, bv_fn, uv_not, uv_neg, eqV, nilV, nc_ptr, nc_fn, nc_if, Option.map_some, toN, Nat.mul_one, implies_true, true_and, and_true, and_self]
  have hB10 := hf10.keep (hF4.keep hB id) (by rintro (e | e | e); exact hBA e; exact hBR e; omega)
  refine stC_one hB10 (Array.getElem?_eq_some_iff.1 hi).1 rfl fun w13 hB13 hf13 => ⟨rfl, h10.keep hf13 (fun e => hBA e.symm) (fun e => hBR e.symm) (fun j hj e => hBg (by rw [hj, e])), hB13, ?_⟩
  refine (hF4.none.trans' hf10 ?_).trans' hf13 ?_
  · rintro j hj (e | e | e)
    · exact .inl e
    · exact .inr (.inl e)
    · omega
  · rintro j hj e; exact .inr (.inr e)
theorem rnum45_c {B i tB : Nat} {C : Array Value} {x : Int} {k : Nat} (hk : k ≤ 64) (h : RdAt w base A R s g) (hB : w.heap[B]? = some (.cells C tB (0, 0))) (hi : C[i]? = some (.int .u32 x)) (hBA : B ≠ A) (hBR : B ≠ R) (hBg : g ≠ some B) :
    callV Try.prog 45 [rv A, .pointer (some ⟨B, i, none⟩), .int .i64 k] w (RdP base A R B tB g w (rdW k s).2 (C.setIfInBounds i (.int .u32 (IntKind.u32.wrap (rdW k s).1)))) := by
  refine vc45 _ ⟨B, i, none⟩ k w _ (rd_of (v := .int .u32 x) (cellOf hB hi) ?_)
  simp only [isB_i, isK_i, isP_i, isTup_i, isInt_i, isSl_i, isPtr_i, isCs_i, isStr_i, isFn_i, isIf_i, rd_i, br_t, br_f, orO_s, orO_n, gd_t, bv_add, bv_sub, bv_mul, bv_eql, bv_neq, bv_lss, bv_leq, bv_gtr, bv_geq, bv_quo, bv_rem, bv_shl, bv_shr, bv_seq, bv_sne, bv_ptr, bv_if, bv_map, bv_nf, bv_bool, bv_sl, bv_fn, uv_not, uv_neg, eqV, nilV, nc_ptr, nc_fn, nc_if, Option.map_some, toN, Nat.mul_one, implies_true, true_and, and_true, and_self]
  refine allocC_of fun w3 hb3 hs3 hf3 => ?_
  refine stC_one hb3 (by simp) rfl fun w4 hb4 hf4 => ?_
  have hF4 : Fm none' w w4 := hf3.trans' hf4 (by rintro i hi rfl; omega)
  have hl := h.lt
  have hw4 := h.keep hF4 id id fun _ _ y => y
  have hBl := lt_of_blk hB
  refine rmeth_whole ?_
  refine (whole87_c hk hw4 hb4 (by simp) (by omega) (by omega) (by intro e; have := hl.2.2 _ e; omega)).mono ?_
  rintro _ w10 ⟨rfl, h10, hb10, hf10⟩
  refine rd_of (v := .int .u64 (rdW k s).1) (cellOf hb10 rfl) ?_
  simp only [isB_i, isK_i, isP_i, isTup_i, isInt_i, isSl_i, isPtr_i, isCs_i, isStr_i, isFn_i, isIf_i, rd_i, br_t, br_f, orO_s, orO_n, gd_t, bv_add, bv_sub, bv_mul, bv_eql, bv_neq, bv_lss, bv_leq, bv_gtr, bv_geq, bv_quo, bv_rem, bv_shl, bv_shr, bv_seq, bv_sne, bv_ptr, bv_if, bv_map, bv_nf, bv_bool, bv_sl, bv_fn, uv_not, uv_neg, eqV, nilV, nc_ptr, nc_fn, nc_if, Option.map_some, toN, Nat.mul_one, implies_true, true_and, and_true, and_self]
  have hB10 := hf10.keep (hF4.keep hB id) (by rintro (e | e | e); exact hBA e; exact hBR e; omega)
  refine stC_one hB10 (Array.getElem?_eq_some_iff.1 hi).1 rfl fun w13 hB13 hf13 => ⟨rfl, h10.keep hf13 (fun e => hBA e.symm) (fun e => hBR e.symm) (fun j hj e => hBg (by rw [hj, e])), hB13, ?_⟩
  refine (hF4.none.trans' hf10 ?_).trans' hf13 ?_
  · rintro j hj (e | e | e)
    · exact .inl e
    · exact .inr (.inl e)
    · omega
  · rintro j hj e; exact .inr (.inr e)
theorem rnum60_c {B i tB : Nat} {C : Array Value} {x : Int} {k : Nat} (hk : k ≤ 64) (h : RdAt w base A R s g) (hB : w.heap[B]? = some (.cells C tB (0, 0))) (hi : C[i]? = some (.int .u8 x)) (hBA : B ≠ A) (hBR : B ≠ R) (hBg : g ≠ some B) :
    callV Try.prog 60 [rv A, .pointer (some ⟨B, i, none⟩), .int .i64 k] w (RdP base A R B tB g w (rdW k s).2 (C.setIfInBounds i (.int .u8 (IntKind.u8.wrap (rdW k s).1)))) := by
  refine vc60 _ ⟨B, i, none⟩ k w _ (rd_of (v := .int .u8 x) (cellOf hB hi) ?_)
  simp only [isB_i, isK_i, isP_i, isTup_i, isInt_i, isSl_i, isPtr_i, isCs_i, isStr_i, isFn_i, isIf_i, rd_i, br_t, br_f, orO_s, orO_n, gd_t, bv_add, bv_sub, bv_mul, bv_eql, bv_neq, bv_lss, bv_leq, bv_gtr, bv_geq, bv_quo, bv_rem, bv_shl, bv_shr, bv_seq, bv_sne, bv_ptr, bv_if, bv_map, bv_nf, bv_bool, bv_sl, bv_fn, uv_not, uv_neg, eqV, nilV, nc_ptr, nc_fn, nc_if, Option.map_some, toN, Nat.mul_one, implies_true, true_and, and_true, and_self]
  refine allocC_of fun w3 hb3 hs3 hf3 => ?_
  refine stC_one hb3 (by simp) rfl fun w4 hb4 hf4 => ?_
  have hF4 : Fm none' w w4 := hf3.trans' hf4 (by rintro i hi rfl; omega)
  have hl := h.lt
  have hw4 := h.keep hF4 id id fun _ _ y => y
  have hBl := lt_of_blk hB
  refine rmeth_whole ?_
  refine (whole87_c hk hw4 hb4 (by simp) (by omega) (by omega) (by intro e; have := hl.2.2 _ e; omega)).mono ?_
  rintro _ w10 ⟨rfl, h10, hb10, hf10⟩
  refine rd_of (v := .int .u64 (rdW k s).1) (cellOf hb10 rfl) ?_
  simp only [isB_i, isK_i, isP_i, isTup_i, isInt_i, isSl_i, isPtr_i, isCs_i, isStr_i, isFn_i, isIf_i, rd_i, br_t, br_f, orO_s, orO_n, gd_t, bv_add, bv_sub, bv_mul, bv_eql, bv_neq, bv_lss, bv_leq, bv_gtr, bv_geq, bv_quo, bv_rem, bv_shl, bv_shr, bv_seq, bv_sne, bv_ptr, bv_if, bv_map, bv_nf, bv_bool, bv_sl, bv_fn, uv_not, uv_neg, eqV, nilV, nc_ptr, nc_fn, nc_if, Option.map_some, toN, Nat.mul_one, implies_true, true_and, and_true, and_self]
  have hB10 := hf10.keep (hF4.keep hB id) (by rintro (e | e | e); exact hBA e; exact hBR e; omega)
  refine stC_one hB10 (Array.getElem?_eq_some_iff.1 hi).1 rfl fun w13 hB13 hf13 => ⟨rfl, h10.keep hf13 (fun e => hBA e.symm) (fun e => hBR e.symm) (fun j hj e => hBg (by rw [hj, e])), hB13, ?_⟩
  refine (hF4.none.trans' hf10 ?_).trans' hf13 ?_
  · rintro j hj (e | e | e)
    · exact .inl e
    · exact .inr (.inl e)
    · omega
  · rintro j hj e; exact .inr (.inr e)
end Go.Proofs.Ytfekkdmnboccfaa
