/- message: number, id and vec of a writer.  Conditions: the writer lies as it is said to lie; the field is a cell of another block. -/
import Derived.Test.YtfekkdmnboccfaaWri
namespace Go.Proofs.Ytfekkdmnboccfaa
set_option linter.unusedSimpArgs false
set_option linter.unusedVariables false
open Go Go.RowKit VC
theorem meth_whole {v : Value} {w : World} {K : FuncId → Value → Prop} (k : K 82 v) : methV Try.prog 54 v "embrasure/message.whole" w K := ⟨82, v, by kernel_rfl, k⟩
theorem meth_signed {v : Value} {w : World} {K : FuncId → Value → Prop} (k : K 81 v) : methV Try.prog 54 v "embrasure/message.signed" w K := ⟨81, v, by kernel_rfl, k⟩
theorem meth_within {v : Value} {w : World} {K : FuncId → Value → Prop} (k : K 83 v) : methV Try.prog 54 v "embrasure/message.within" w K := ⟨83, v, by kernel_rfl, k⟩
theorem meth_bytes {v : Value} {w : World} {K : FuncId → Value → Prop} (k : K 80 v) : methV Try.prog 54 v "embrasure/message.bytes" w K := ⟨80, v, by kernel_rfl, k⟩
theorem nila_within {a : Addr} {w : World} {K : Prop} (k : K) : nilA Try.prog 54 (.pointer (some a)) "embrasure/message.within" w K := ⟨by kernel_rfl, k⟩
/-- A block that turned and is as it was has not turned. -/
theorem Fm.unturn {S : Nat → Prop} {w w' : World} {B : Nat} (h : Fm (fun i => S i ∨ i = B) w w') (hB : w'.heap[B]? = w.heap[B]?) : Fm S w w' :=
  ⟨h.os, h.tape, h.output, h.size, fun i hi hn => by
    by_cases e : i = B
    · subst e; exact hB
    · exact h.blk i hi fun x => x.elim hn e⟩
theorem set_same {C : Array Value} {i : Nat} {v : Value} (h : C[i]? = some v) : C.setIfInBounds i v = C := by
  obtain ⟨hi, hv⟩ := Array.getElem?_eq_some_iff.1 h
  apply Array.ext'
  rw [Array.toList_setIfInBounds]
  refine List.ext_getElem? fun j => ?_
  rw [List.getElem?_set]
  split
  · rename_i e; subst e
    rw [if_pos (by simpa using hi)]
    simpa using h.symm
  · rfl
variable {w : World} {base A : Nat} {T : TypeId} {wr : Bool} {bs : List Int} {g : Option Nat}
abbrev wv (A : Nat) : Value := .iface 54 (.pointer (some ⟨A, 0, none⟩))
theorem num30_c {B i tB : Nat} {C : Array Value} {x : Int} {k : Nat} (hk : k ≤ 64) (h : WrAt w base A T (.bool wr) bs g) (hB : w.heap[B]? = some (.cells C tB (0, 0))) (hi : C[i]? = some (.int .i64 x)) (hBA : B ≠ A) (hBg : g ≠ some B)
    (hx : IntKind.i64.wrap (IntKind.u64.wrap x) = x) (hlen : bs.length + k ≤ 1125899906842000) :
    callV Try.prog 30 [wv A, .pointer (some ⟨B, i, none⟩), .int .i64 k] w (WrP base A T wr bs g w (bitsOf (IntKind.u64.wrap x) k) (!decide ((IntKind.u64.wrap x).fdiv (2 ^ (min k 64)) = 0))) := by
  refine vc30 _ ⟨B, i, none⟩ k w _ (rd_of (v := .int .i64 x) (cellOf hB hi) ?_)
  simp only [isB_i, isK_i, isP_i, isTup_i, isInt_i, isSl_i, isPtr_i, isCs_i, isStr_i, isFn_i, isIf_i, rd_i, br_t, br_f, orO_s, orO_n, gd_t, bv_add, bv_sub, bv_mul, bv_eql, bv_neq, bv_lss, bv_leq, bv_gtr, bv_geq, bv_quo, bv_rem, bv_shl, bv_shr, bv_seq, bv_sne, bv_ptr, bv_if, bv_map, bv_nf, bv_bool, bv_sl, bv_fn, uv_not, uv_neg, eqV, nilV, nc_ptr, nc_fn, nc_if, Option.map_some, toN, Nat.mul_one, implies_true, true_and, and_true, and_self]
  refine allocC_of fun w3 hb3 hs3 hf3 => ?_
  refine stC_one hb3 (by simp) rfl fun w4 hb4 hf4 => ?_
  have hF4 : Fm none' w w4 := hf3.trans' hf4 (by rintro i hi rfl; omega)
  have hl := h.lt
  have hw4 := h.keep hF4 id fun _ _ y => y
  have hs4 : w3.heap.size ≤ w4.heap.size := hf4.size
  refine meth_whole ?_
  refine (whole82_c hk hw4 (cellOf hb4 rfl) (by show w.heap.size ≠ A; omega) (by intro e; have := hl.2 _ e; exact absurd this (Nat.lt_irrefl _)) hlen).mono ?_
  rintro _ w10 ⟨rfl, g1, hw1, hg1, hf1⟩
  have hb10 := hf1.keep hb4 (by rintro (e | e); omega; have := hl.2 _ e; omega)
  refine rd_of (v := .int .u64 (IntKind.u64.wrap x)) (cellOf hb10 rfl) ?_
  simp only [isB_i, isK_i, isP_i, isTup_i, isInt_i, isSl_i, isPtr_i, isCs_i, isStr_i, isFn_i, isIf_i, rd_i, br_t, br_f, orO_s, orO_n, gd_t, bv_add, bv_sub, bv_mul, bv_eql, bv_neq, bv_lss, bv_leq, bv_gtr, bv_geq, bv_quo, bv_rem, bv_shl, bv_shr, bv_seq, bv_sne, bv_ptr, bv_if, bv_map, bv_nf, bv_bool, bv_sl, bv_fn, uv_not, uv_neg, eqV, nilV, nc_ptr, nc_fn, nc_if, Option.map_some, toN, Nat.mul_one, implies_true, true_and, and_true, and_self, hx]
  have hB10 := hf1.keep (hF4.keep hB id) (by rintro (e | e); exact hBA e; exact hBg e)
  have hBl := lt_of_blk hB
  have hg1' : g1 = g ∨ ∃ b, g1 = some b ∧ w.heap.size ≤ b := grow_trans hF4.size (.inl rfl) hg1
  refine stC_one hB10 (Array.getElem?_eq_some_iff.1 hi).1 rfl fun w13 hB13 hf13 => ?_
  rw [set_same hi] at hB13
  have hF : Fm (fun i => i = A ∨ g = some i) w w13 := Fm.unturn (B := B) (((hF4.none.trans hf1).mono fun i _ e => .inl e).trans (hf13.mono fun i _ e => .inr e)) (hB13.trans hB.symm)
  exact ⟨rfl, g1, hw1.keep hf13 (fun e => hBA e.symm) (fun j hj e => apart_of hBl hBg hg1' (by rw [hj, e])), hg1', hF⟩
theorem num41_c {B i tB : Nat} {C : Array Value} {x : Int} {k : Nat} (hk : k ≤ 64) (h : WrAt w base A T (.bool wr) bs g) (hB : w.heap[B]? = some (.cells C tB (0, 0))) (hi : C[i]? = some (.int .u16 x)) (hBA : B ≠ A) (hBg : g ≠ some B)
    (hx : IntKind.u16.wrap (IntKind.u64.wrap x) = x) (hlen : bs.length + k ≤ 1125899906842000) :
    callV Try.prog 41 [wv A, .pointer (some ⟨B, i, none⟩), .int .i64 k] w (WrP base A T wr bs g w (bitsOf (IntKind.u64.wrap x) k) (!decide ((IntKind.u64.wrap x).fdiv (2 ^ (min k 64)) = 0))) := by
  refine vc41 _ ⟨B, i, none⟩ k w _ (rd_of (v := .int .u16 x) (cellOf hB hi) ?_)
  simp only [isB_i, isK_i, isP_i, isTup_i, isInt_i, isSl_i, isPtr_i, isCs_i, isStr_i, isFn_i, isIf_i, rd_i, br_t, br_f, orO_s, orO_n, gd_t, bv_add, bv_sub, bv_mul, bv_eql, bv_neq, bv_lss, bv_leq, bv_gtr, bv_geq, bv_quo, bv_rem, bv_shl, bv_shr, bv_seq, bv_sne, bv_ptr, bv_if, bv_map, bv_nf, bv_bool, bv_sl, bv_fn, uv_not, uv_neg, eqV, nilV, nc_ptr, nc_fn, nc_if, Option.map_some, toN, Nat.mul_one, implies_true, true_and, and_true, and_self]
  refine allocC_of fun w3 hb3 hs3 hf3 => ?_
  refine stC_one hb3 (by simp) rfl fun w4 hb4 hf4 => ?_
  have hF4 : Fm none' w w4 := hf3.trans' hf4 (by rintro i hi rfl; omega)
  have hl := h.lt
  have hw4 := h.keep hF4 id fun _ _ y => y
  have hs4 : w3.heap.size ≤ w4.heap.size := hf4.size
  refine meth_whole ?_
  refine (whole82_c hk hw4 (cellOf hb4 rfl) (by show w.heap.size ≠ A; omega) (by intro e; have := hl.2 _ e; exact absurd this (Nat.lt_irrefl _)) hlen).mono ?_
  rintro _ w10 ⟨rfl, g1, hw1, hg1, hf1⟩
  have hb10 := hf1.keep hb4 (by rintro (e | e); omega; have := hl.2 _ e; omega)
  refine rd_of (v := .int .u64 (IntKind.u64.wrap x)) (cellOf hb10 rfl) ?_
  simp only [isB_i, isK_i, isP_i, isTup_i, isInt_i, isSl_i, isPtr_i, isCs_i, isStr_i, isFn_i, isIf_i, rd_i, br_t, br_f, orO_s, orO_n, gd_t, bv_add, bv_sub, bv_mul, bv_eql, bv_neq, bv_lss, bv_leq, bv_gtr, bv_geq, bv_quo, bv_rem, bv_shl, bv_shr, bv_seq, bv_sne, bv_ptr, bv_if, bv_map, bv_nf, bv_bool, bv_sl, bv_fn, uv_not, uv_neg, eqV, nilV, nc_ptr, nc_fn, nc_if, Option.map_some, toN, Nat.mul_one, implies_true, true_and, and_true, and_self, hx]
  have hB10 := hf1.keep (hF4.keep hB id) (by rintro (e | e); exact hBA e; exact hBg e)
  have hBl := lt_of_blk hB
  have hg1' : g1 = g ∨ ∃ b, g1 = some b ∧ w.heap.size ≤ b := grow_trans hF4.size (.inl rfl) hg1
  refine stC_one hB10 (Array.getElem?_eq_some_iff.1 hi).1 rfl fun w13 hB13 hf13 => ?_
  rw [set_same hi] at hB13
  have hF : Fm (fun i => i = A ∨ g = some i) w w13 := Fm.unturn (B := B) (((hF4.none.trans hf1).mono fun i _ e => .inl e).trans (hf13.mono fun i _ e => .inr e)) (hB13.trans hB.symm)
  exact ⟨rfl, g1, hw1.keep hf13 (fun e => hBA e.symm) (fun j hj e => apart_of hBl hBg hg1' (by rw [hj, e])), hg1', hF⟩
theorem num44_c {B i tB : Nat} {C : Array Value} {x : Int} {k : Nat} (hk : k ≤ 64) (h : WrAt w base A T (.bool wr) bs g) (hB : w.heap[B]? = some (.cells C tB (0, 0))) (hi : C[i]? = some (.int .i64 x)) (hBA : B ≠ A) (hBg : g ≠ some B)
    (hx : IntKind.i64.wrap (IntKind.u64.wrap x) = x) (hlen : bs.length + k ≤ 1125899906842000) :
    callV Try.prog 44 [wv A, .pointer (some ⟨B, i, none⟩), .int .i64 k] w (WrP base A T wr bs g w (bitsOf (IntKind.u64.wrap x) k) (!decide ((IntKind.u64.wrap x).fdiv (2 ^ (min k 64)) = 0))) := by
  refine vc44 _ ⟨B, i, none⟩ k w _ (rd_of (v := .int .i64 x) (cellOf hB hi) ?_)
  simp only [isB_i, isK_i, isP_i, isTup_i, isInt_i, isSl_i, isPtr_i, isCs_i, isStr_i, isFn_i, isIf_i, rd_i, br_t, br_f, orO_s, orO_n, gd_t, bv_add, bv_sub, bv_mul, bv_eql, bv_neq, bv_lss, bv_leq, bv_gtr, bv_geq, bv_quo, bv_rem, bv_shl, bv_shr, bv_seq, bv_sne, bv_ptr, bv_if, bv_map, bv_nf, bv_bool, bv_sl, bv_fn, uv_not, uv_neg, eqV, nilV, nc_ptr, nc_fn, nc_if, Option.map_some, toN, Nat.mul_one, implies_true, true_and, and_true, and_self]
  refine allocC_of fun w3 hb3 hs3 hf3 => ?_
  refine stC_one hb3 (by simp) rfl fun w4 hb4 hf4 => ?_
  have hF4 : Fm none' w w4 := hf3.trans' hf4 (by rintro i hi rfl; omega)
  have hl := h.lt
  have hw4 := h.keep hF4 id fun _ _ y => y
  have hs4 : w3.heap.size ≤ w4.heap.size := hf4.size
  refine meth_whole ?_
  refine (whole82_c hk hw4 (cellOf hb4 rfl) (by show w.heap.size ≠ A; omega) (by intro e; have := hl.2 _ e; exact absurd this (Nat.lt_irrefl _)) hlen).mono ?_
  rintro _ w10 ⟨rfl, g1, hw1, hg1, hf1⟩
  have hb10 := hf1.keep hb4 (by rintro (e | e); omega; have := hl.2 _ e; omega)
  refine rd_of (v := .int .u64 (IntKind.u64.wrap x)) (cellOf hb10 rfl) ?_
  simp only [isB_i, isK_i, isP_i, isTup_i, isInt_i, isSl_i, isPtr_i, isCs_i, isStr_i, isFn_i, isIf_i, rd_i, br_t, br_f, orO_s, orO_n, gd_t, bv_add, bv_sub, bv_mul, bv_eql, bv_neq, bv_lss, bv_leq, bv_gtr, bv_geq, bv_quo, bv_rem, bv_shl, bv_shr, bv_seq, bv_sne, bv_ptr, bv_if, bv_map, bv_nf, bv_bool, bv_sl, bv_fn, uv_not, uv_neg, eqV, nilV, nc_ptr, nc_fn, nc_if, Option.map_some, toN, Nat.mul_one, implies_true, true_and, and_true, and_self, hx]
  have hB10 := hf1.keep (hF4.keep hB id) (by rintro (e | e); exact hBA e; exact hBg e)
  have hBl := lt_of_blk hB
  have hg1' : g1 = g ∨ ∃ b, g1 = some b ∧ w.heap.size ≤ b := grow_trans hF4.size (.inl rfl) hg1
  refine stC_one hB10 (Array.getElem?_eq_some_iff.1 hi).1 rfl fun w13 hB13 hf13 => ?_
  rw [set_same hi] at hB13
  have hF : Fm (fun i => i = A ∨ g = some i) w w13 := Fm.unturn (B := B) (((hF4.none.trans hf1).mono fun i _ e => .inl e).trans (hf13.mono fun i _ e => .inr e)) (hB13.trans hB.symm)
  exact ⟨rfl, g1, hw1.keep hf13 (fun e => hBA e.symm) (fun j hj e => apart_of hBl hBg hg1' (by rw [hj, e])), hg1', hF⟩
theorem num45_c {B i tB : Nat} {C : Array Value} {x : Int} {k : Nat} (hk : k ≤ 64) (h : WrAt w base A T (.bool wr) bs g) (hB : w.heap[B]? = some (.cells C tB (0, 0))) (hi : C[i]? = some (.int .u32 x)) (hBA : B ≠ A) (hBg : g ≠ some B)
    (hx : IntKind.u32.wrap (IntKind.u64.wrap x) = x) (hlen : bs.length + k ≤ 1125899906842000) :
    callV Try.prog 45 [wv A, .pointer (some ⟨B, i, none⟩), .int .i64 k] w (WrP base A T wr bs g w (bitsOf (IntKind.u64.wrap x) k) (!decide ((IntKind.u64.wrap x).fdiv (2 ^ (min k 64)) = 0))) := by
  refine vc45 _ ⟨B, i, none⟩ k w _ (rd_of (v := .int .u32 x) (cellOf hB hi) ?_)
  simp only [isB_i, isK_i, isP_i, isTup_i, isInt_i, isSl_i, isPtr_i, isCs_i, isStr_i, isFn_i, isIf_i, rd_i, br_t, br_f, orO_s, orO_n, gd_t, bv_add, bv_sub, bv_mul, bv_eql, bv_neq, bv_lss, bv_leq, bv_gtr, bv_geq, bv_quo, bv_rem, bv_shl, bv_shr, bv_seq, bv_sne, bv_ptr, bv_if, bv_map, bv_nf, bv_bool, bv_sl, bv_fn, uv_not, uv_neg, eqV, nilV, nc_ptr, nc_fn, nc_if, Option.map_some, toN, Nat.mul_one, implies_true, true_and, and_true, and_self]
  refine allocC_of fun w3 hb3 hs3 hf3 => ?_
  refine stC_one hb3 (by simp) rfl fun w4 hb4 hf4 => ?_
  have hF4 : Fm none' w w4 := hf3.trans' hf4 (by rintro i hi rfl; omega)
  have hl := h.lt
  have hw4 := h.keep hF4 id fun _ _ y => y
  have hs4 : w3.heap.size ≤ w4.heap.size := hf4.size
  refine meth_whole ?_
  refine (whole82_c hk hw4 (cellOf hb4 rfl) (by show w.heap.size ≠ A; omega) (by intro e; have := hl.2 _ e; exact absurd this (Nat.lt_irrefl _)) hlen).mono ?_
  rintro _ w10 ⟨rfl, g1, hw1, hg1, hf1⟩
  have hb10 := hf1.keep hb4 (by rintro (e | e); omega; have := hl.2 _ e; omega)
  refine rd_of (v := .int .u64 (IntKind.u64.wrap x)) (cellOf hb10 rfl) ?_
  simp only [isB_i, isK_i, isP_i, isTup_i, isInt_i, isSl_i, isPtr_i, isCs_i, isStr_i, isFn_i, isIf_i, rd_i, br_t, br_f, orO_s, orO_n, gd_t, bv_add, bv_sub, bv_mul, bv_eql, bv_neq, bv_lss, bv_leq, bv_gtr, bv_geq, bv_quo, bv_rem, bv_shl, bv_shr, bv_seq, bv_sne, bv_ptr, bv_if, bv_map, bv_nf, bv_bool, bv_sl, bv_fn, uv_not, uv_neg, eqV, nilV, nc_ptr, nc_fn, nc_if, Option.map_some, toN, Nat.mul_one, implies_true, true_and, and_true, and_self, hx]
  have hB10 := hf1.keep (hF4.keep hB id) (by rintro (e | e); exact hBA e; exact hBg e)
  have hBl := lt_of_blk hB
  have hg1' : g1 = g ∨ ∃ b, g1 = some b ∧ w.heap.size ≤ b := grow_trans hF4.size (.inl rfl) hg1
  refine stC_one hB10 (Array.getElem?_eq_some_iff.1 hi).1 rfl fun w13 hB13 hf13 => ?_
  rw [set_same hi] at hB13
  have hF : Fm (fun i => i = A ∨ g = some i) w w13 := Fm.unturn (B := B) (((hF4.none.trans hf1).mono fun i _ e => .inl e).trans (hf13.mono fun i _ e => .inr e)) (hB13.trans hB.symm)
  exact ⟨rfl, g1, hw1.keep hf13 (fun e => hBA e.symm) (fun j hj e => apart_of hBl hBg hg1' (by rw [hj, e])), hg1', hF⟩
theorem num60_c {B i tB : Nat} {C : Array Value} {x : Int} {k : Nat} (hk : k ≤ 64) (h : WrAt w base A T (.bool wr) bs g) (hB : w.heap[B]? = some (.cells C tB (0, 0))) (hi : C[i]? = some (.int .u8 x)) (hBA : B ≠ A) (hBg : g ≠ some B)
    (hx : IntKind.u8.wrap (IntKind.u64.wrap x) = x) (hlen : bs.length + k ≤ 1125899906842000) :
    callV Try.prog 60 [wv A, .pointer (some ⟨B, i, none⟩), .int .i64 k] w (WrP base A T wr bs g w (bitsOf (IntKind.u64.wrap x) k) (!decide ((IntKind.u64.wrap x).fdiv (2 ^ (min k 64)) = 0))) := by
  refine vc60 _ ⟨B, i, none⟩ k w _ (rd_of (v := .int .u8 x) (cellOf hB hi) ?_)
  simp only [isB_i, isK_i, isP_i, isTup_i, isInt_i, isSl_i, isPtr_i, isCs_i, isStr_i, isFn_i, isIf_i, rd_i, br_t, br_f, orO_s, orO_n, gd_t, bv_add, bv_sub, bv_mul, bv_eql, bv_neq, bv_lss, bv_leq, bv_gtr, bv_geq, bv_quo, bv_rem, bv_shl, bv_shr, bv_seq, bv_sne, bv_ptr, bv_if, bv_map, bv_nf, bv_bool, bv_sl, bv_fn, uv_not, uv_neg, eqV, nilV, nc_ptr, nc_fn, nc_if, Option.map_some, toN, Nat.mul_one, implies_true, true_and, and_true, and_self]
  refine allocC_of fun w3 hb3 hs3 hf3 => ?_
  refine stC_one hb3 (by simp) rfl fun w4 hb4 hf4 => ?_
  have hF4 : Fm none' w w4 := hf3.trans' hf4 (by rintro i hi rfl; omega)
  have hl := h.lt
  have hw4 := h.keep hF4 id fun _ _ y => y
  have hs4 : w3.heap.size ≤ w4.heap.size := hf4.size
  refine meth_whole ?_
  refine (whole82_c hk hw4 (cellOf hb4 rfl) (by show w.heap.size ≠ A; omega) (by intro e; have := hl.2 _ e; exact absurd this (Nat.lt_irrefl _)) hlen).mono ?_
  rintro _ w10 ⟨rfl, g1, hw1, hg1, hf1⟩
  have hb10 := hf1.keep hb4 (by rintro (e | e); omega; have := hl.2 _ e; omega)
  refine rd_of (v := .int .u64 (IntKind.u64.wrap x)) (cellOf hb10 rfl) ?_
  simp only [isB_i, isK_i, isP_i, isTup_i, isInt_i, isSl_i, isPtr_i, isCs_i, isStr_i, isFn_i, isIf_i, rd_i, br_t, br_f, orO_s, orO_n, gd_t, bv_add, bv_sub, bv_mul, bv_eql, bv_neq, bv_lss, bv_leq, bv_gtr, bv_geq, bv_quo, bv_rem, bv_shl, bv_shr, bv_seq, bv_sne, bv_ptr, bv_if, bv_map, bv_nf, bv_bool, bv_sl, bv_fn, uv_not, uv_neg, eqV, nilV, nc_ptr, nc_fn, nc_if, Option.map_some, toN, Nat.mul_one, implies_true, true_and, and_true, and_self, hx]
  have hB10 := hf1.keep (hF4.keep hB id) (by rintro (e | e); exact hBA e; exact hBg e)
  have hBl := lt_of_blk hB
  have hg1' : g1 = g ∨ ∃ b, g1 = some b ∧ w.heap.size ≤ b := grow_trans hF4.size (.inl rfl) hg1
  refine stC_one hB10 (Array.getElem?_eq_some_iff.1 hi).1 rfl fun w13 hB13 hf13 => ?_
  rw [set_same hi] at hB13
  have hF : Fm (fun i => i = A ∨ g = some i) w w13 := Fm.unturn (B := B) (((hF4.none.trans hf1).mono fun i _ e => .inl e).trans (hf13.mono fun i _ e => .inr e)) (hB13.trans hB.symm)
  exact ⟨rfl, g1, hw1.keep hf13 (fun e => hBA e.symm) (fun j hj e => apart_of hBl hBg hg1' (by rw [hj, e])), hg1', hF⟩
end Go.Proofs.Ytfekkdmnboccfaa
