/- What New, Len, Add, Get, Drop, Put of a table do, of numbers and of strings.  Conditions: it lies as it is said to lie. -/
import Derived.Test.YtlhgibiffekpfaaC0
import Derived.Test.YtlhgibiffekpfaaMaps
namespace Go.Proofs.Ytlhgibiffekpfaa
set_option linter.unusedSimpArgs false
set_option linter.unusedVariables false
open Go Go.RowKit VC

/-- A table of package ring lies at B, its map at M. -/
def TabAt {α : Type} (enc : α → Value) (T : TypeId) (w : World) (B M : Nat) (most last : Int) (l : List (Int × α)) : Prop :=
  w.heap[B]? = some (.cells #[.int .i64 most, .int .i64 last, .map (some M)] T (0, 0)) ∧ MapAt enc .i64 w M l
theorem TabAt.keep {α : Type} {enc : α → Value} {T : TypeId} {w w' : World} {B M : Nat} {most last : Int} {l : List (Int × α)} {S : Nat → Prop} (h : TabAt enc T w B M most last l) (f : Fm S w w') (hB : ¬ S B) (hM : ¬ S M) : TabAt enc T w' B M most last l := ⟨f.keep h.1 hB, h.2.keep f hM⟩
theorem TabAt.ne {α : Type} {enc : α → Value} {T : TypeId} {w : World} {B M : Nat} {most last : Int} {l : List (Int × α)} (h : TabAt enc T w B M most last l) : B ≠ M := by
  obtain ⟨h1, es, clock, h2, _⟩ := h
  rintro rfl
  rw [h1] at h2; cases h2
theorem TabAt.lt {α : Type} {enc : α → Value} {T : TypeId} {w : World} {B M : Nat} {most last : Int} {l : List (Int × α)} (h : TabAt enc T w B M most last l) : B < w.heap.size ∧ M < w.heap.size := ⟨lt_of_blk h.1, lt_of_blk h.2.choose_spec.choose_spec.1⟩

theorem new16_c (a : Int) (w : World) : callV Try.prog 16 [.int .i64 a] w fun v w' => ∃ B M, v = .pointer (some ⟨B, 0, none⟩) ∧ w.heap.size ≤ B ∧ w.heap.size ≤ M ∧ TabAt (Value.int .i64) 85 w' B M (max a 1) 0 [] ∧ Fm none' w w' := by
  refine vc16 a w _ ?_
  refine makeM (enc := (Value.int .i64)) (q := .i64) fun w1 hm hs hf => ?_
  refine allocC_of fun w2 hb hs2 hf2 => ?_
  exact ⟨_, _, rfl, by omega, Nat.le_refl _, ⟨hb, hm.keep hf2 id⟩, hf.trans hf2⟩
theorem len17_c {B M : Nat} {most last : Int} {l : List (Int × Int)} {w : World} (h : TabAt (Value.int .i64) 85 w B M most last l) : callV Try.prog 17 [.pointer (some ⟨B, 0, none⟩)] w fun v w' => v = .int .i64 l.length ∧ w' = w := by
  refine vc17 ⟨B, 0, none⟩ w _ (rd_of (v := .map (some M)) (cellOf h.1 rfl) ?_)
  exact lenM_ok (by rw [row83]) h.2 ⟨rfl, rfl⟩
set_option maxRecDepth 8000 in
theorem add18_c {B M : Nat} {most last : Int} {l : List (Int × Int)} {w : World} (x : Int) (h : TabAt (Value.int .i64) 85 w B M most last l) (h0 : 0 ≤ last ∧ last < 4611686018427387904) :
    callV Try.prog 18 [.pointer (some ⟨B, 0, none⟩), .int .i64 x] w fun v w' => v = (if most ≤ l.length then .tuple #[.int .i64 0, .int .i64 5] else .tuple #[.int .i64 (last + 1), .int .i64 0]) ∧
      TabAt (Value.int .i64) 85 w' B M most (if most ≤ l.length then last else last + 1) (if most ≤ l.length then l else setM (last + 1) x l) ∧ Fm (fun i => i = B ∨ i = M) w w' := by
  have hne := h.ne
  obtain ⟨hB, hM⟩ := h
  refine vc18 ⟨B, 0, none⟩ x w _ ?_
  have hB' : w.drew.heap[B]? = _ := hB
  have hM' := hM.keep (Fm.drew w) id
  refine ⟨fun w' => w'.heap[B]? = some (.cells #[.int .i64 most, .int .i64 last, .map (some M)] 85 (0, 0)) ∧ MapAt (Value.int .i64) .i64 w' M l, ⟨hB', hM'⟩, ?_⟩
  simp only [addr_add, Nat.zero_add, isB_i, isK_i, isP_i, isTup_i, isInt_i, isSl_i, isPtr_i, isCs_i, isStr_i, isFn_i, isIf_i, rd_i, br_t, br_f, orO_s, orO_n, gd_t, bv_add, bv_sub, bv_mul, bv_eql, bv_neq, bv_lss, bv_leq, bv_gtr, bv_geq, bv_quo, bv_rem, bv_shl, bv_shr, bv_seq, bv_sne, bv_ptr, bv_if, bv_map, bv_nf, bv_bool, bv_sl, bv_fn, uv_not, uv_neg, eqV, nilV, nc_ptr, nc_fn, nc_if, Option.map_some, toN, Nat.mul_one, implies_true, true_and, and_true, and_self]
  refine rd_of (v := .map (some M)) (cellOf hB' rfl) ⟨fun w' hw => rd_of (cellOf hw.1 rfl) rfl, ?_⟩
  refine lenM_ok (by rw [row83]) hM' ⟨fun w' hw => lenM_ok (by rw [row83]) hw.2 ⟨rfl, rfl⟩, ?_⟩
  simp only [isB_i, isK_i, isP_i, isTup_i, isInt_i, isSl_i, isPtr_i, isCs_i, isStr_i, isFn_i, isIf_i, rd_i, br_t, br_f, orO_s, orO_n, gd_t, bv_add, bv_sub, bv_mul, bv_eql, bv_neq, bv_lss, bv_leq, bv_gtr, bv_geq, bv_quo, bv_rem, bv_shl, bv_shr, bv_seq, bv_sne, bv_ptr, bv_if, bv_map, bv_nf, bv_bool, bv_sl, bv_fn, uv_not, uv_neg, eqV, nilV, nc_ptr, nc_fn, nc_if, Option.map_some, toN, Nat.mul_one, implies_true, true_and, and_true, and_self]
  refine rd_of (v := .int .i64 most) (cellOf hB' rfl) ⟨fun w' hw => rd_of (cellOf hw.1 rfl) rfl, ?_⟩
  simp only [isB_i, isK_i, isP_i, isTup_i, isInt_i, isSl_i, isPtr_i, isCs_i, isStr_i, isFn_i, isIf_i, rd_i, br_t, br_f, orO_s, orO_n, gd_t, bv_add, bv_sub, bv_mul, bv_eql, bv_neq, bv_lss, bv_leq, bv_gtr, bv_geq, bv_quo, bv_rem, bv_shl, bv_shr, bv_seq, bv_sne, bv_ptr, bv_if, bv_map, bv_nf, bv_bool, bv_sl, bv_fn, uv_not, uv_neg, eqV, nilV, nc_ptr, nc_fn, nc_if, Option.map_some, toN, Nat.mul_one, implies_true, true_and, and_true, and_self]
  refine br_dec (fun hr => ?_) (fun hr => ?_)
  · rw [if_pos hr, if_pos hr, if_pos hr]
    exact ⟨rfl, ⟨hB', hM'⟩, (Fm.drew w).none⟩
  · rw [if_neg hr, if_neg hr, if_neg hr]
    refine rd_of (v := .int .i64 last) (cellOf hB' rfl) ?_
    simp only [isB_i, isK_i, isP_i, isTup_i, isInt_i, isSl_i, isPtr_i, isCs_i, isStr_i, isFn_i, isIf_i, rd_i, br_t, br_f, orO_s, orO_n, gd_t, bv_add, bv_sub, bv_mul, bv_eql, bv_neq, bv_lss, bv_leq, bv_gtr, bv_geq, bv_quo, bv_rem, bv_shl, bv_shr, bv_seq, bv_sne, bv_ptr, bv_if, bv_map, bv_nf, bv_bool, bv_sl, bv_fn, uv_not, uv_neg, eqV, nilV, nc_ptr, nc_fn, nc_if, Option.map_some, toN, Nat.mul_one, implies_true, true_and, and_true, and_self]
    rw [w64 (by omega)]
    refine stC_one hB' (by simp) rfl fun w2 hw2 hf2 => ?_
    have hw2' : w2.drew.heap[B]? = some (.cells #[.int .i64 most, .int .i64 (last + 1), .map (some M)] 85 (0, 0)) := hw2
    refine ⟨fun w' => w'.heap[B]? = some (.cells #[.int .i64 most, .int .i64 (last + 1), .map (some M)] 85 (0, 0)), hw2', ?_⟩
    refine rd_of (v := .map (some M)) (cellOf hw2' rfl) ⟨fun w' hw => rd_of (cellOf hw rfl) rfl, ?_⟩
    refine rd_of (v := .int .i64 (last + 1)) (cellOf hw2' rfl) ⟨fun w' hw => rd_of (cellOf hw rfl) rfl, ?_⟩
    simp only [isB_i, isK_i, isP_i, isTup_i, isInt_i, isSl_i, isPtr_i, isCs_i, isStr_i, isFn_i, isIf_i, rd_i, br_t, br_f, orO_s, orO_n, gd_t, bv_add, bv_sub, bv_mul, bv_eql, bv_neq, bv_lss, bv_leq, bv_gtr, bv_geq, bv_quo, bv_rem, bv_shl, bv_shr, bv_seq, bv_sne, bv_ptr, bv_if, bv_map, bv_nf, bv_bool, bv_sl, bv_fn, uv_not, uv_neg, eqV, nilV, nc_ptr, nc_fn, nc_if, Option.map_some, toN, Nat.mul_one, implies_true, true_and, and_true, and_self]
    refine update_ok (v := x) (by rw [row83]) (by rw [row3]) ((hM'.keep hf2 fun e => hne e.symm).keep (Fm.drew w2) id) fun w3 hM3 hf3 => ?_
    have hB3 := hf3.keep hw2' hne
    refine ⟨hB3, rd_of (v := .int .i64 (last + 1)) (cellOf hB3 rfl) ?_⟩
    simp only [isB_i, isK_i, isP_i, isTup_i, isInt_i, isSl_i, isPtr_i, isCs_i, isStr_i, isFn_i, isIf_i, rd_i, br_t, br_f, orO_s, orO_n, gd_t, bv_add, bv_sub, bv_mul, bv_eql, bv_neq, bv_lss, bv_leq, bv_gtr, bv_geq, bv_quo, bv_rem, bv_shl, bv_shr, bv_seq, bv_sne, bv_ptr, bv_if, bv_map, bv_nf, bv_bool, bv_sl, bv_fn, uv_not, uv_neg, eqV, nilV, nc_ptr, nc_fn, nc_if, Option.map_some, toN, Nat.mul_one, implies_true, true_and, and_true, and_self]
    exact ⟨⟨hB3, hM3⟩, (Fm.drew w).none.trans ((hf2.mono fun i _ h => .inl h).trans ((Fm.drew w2).none.trans (hf3.mono fun i _ h => .inr h)))⟩
theorem get19_c {B M : Nat} {most last : Int} {l : List (Int × Int)} {w : World} (k : Int) (h : TabAt (Value.int .i64) 85 w B M most last l) :
    callV Try.prog 19 [.pointer (some ⟨B, 0, none⟩), .int .i64 k] w fun v w' => v = .tuple #[(Value.int .i64) ((getM k l).getD 0), .bool (getM k l).isSome] ∧ w' = w := by
  refine vc19 ⟨B, 0, none⟩ k w _ (rd_of (v := .map (some M)) (cellOf h.1 rfl) ?_)
  refine lookup_ok (z := 0) (by rw [row83]) (by rw [row3]) (by rw [row3]) h.2 ?_
  simp only [isB_i, isK_i, isP_i, isTup_i, isInt_i, isSl_i, isPtr_i, isCs_i, isStr_i, isFn_i, isIf_i, rd_i, br_t, br_f, orO_s, orO_n, gd_t, bv_add, bv_sub, bv_mul, bv_eql, bv_neq, bv_lss, bv_leq, bv_gtr, bv_geq, bv_quo, bv_rem, bv_shl, bv_shr, bv_seq, bv_sne, bv_ptr, bv_if, bv_map, bv_nf, bv_bool, bv_sl, bv_fn, uv_not, uv_neg, eqV, nilV, nc_ptr, nc_fn, nc_if, Option.map_some, toN, Nat.mul_one, implies_true, true_and, and_true, and_self, List.getElem?_cons_zero, List.getElem?_cons_succ]
theorem drop20_c {B M : Nat} {most last : Int} {l : List (Int × Int)} {w : World} (k : Int) (h : TabAt (Value.int .i64) 85 w B M most last l) :
    callV Try.prog 20 [.pointer (some ⟨B, 0, none⟩), .int .i64 k] w fun v w' => v = .bool (getM k l).isSome ∧ TabAt (Value.int .i64) 85 w' B M most last (delM k l) ∧ Fm (fun i => i = M) w w' := by
  refine vc20 ⟨B, 0, none⟩ k w _ (rd_of (v := .map (some M)) (cellOf h.1 rfl) ?_)
  refine lookup_ok (z := 0) (by rw [row83]) (by rw [row3]) (by rw [row3]) h.2 ?_
  simp only [isB_i, isK_i, isP_i, isTup_i, isInt_i, isSl_i, isPtr_i, isCs_i, isStr_i, isFn_i, isIf_i, rd_i, br_t, br_f, orO_s, orO_n, gd_t, bv_add, bv_sub, bv_mul, bv_eql, bv_neq, bv_lss, bv_leq, bv_gtr, bv_geq, bv_quo, bv_rem, bv_shl, bv_shr, bv_seq, bv_sne, bv_ptr, bv_if, bv_map, bv_nf, bv_bool, bv_sl, bv_fn, uv_not, uv_neg, eqV, nilV, nc_ptr, nc_fn, nc_if, Option.map_some, toN, Nat.mul_one, implies_true, true_and, and_true, and_self, List.getElem?_cons_zero, List.getElem?_cons_succ]
  refine rd_of (v := .map (some M)) (cellOf h.1 rfl) ?_
  refine delete_ok (by rw [row83]) (by rw [row3]) h.2 fun w' hm hf => ?_
  exact ⟨⟨hf.keep h.1 h.ne, hm⟩, hf⟩
theorem put21_c {B M : Nat} {most last : Int} {l : List (Int × Int)} {w : World} (k : Int) (x : Int) (h : TabAt (Value.int .i64) 85 w B M most last l) :
    callV Try.prog 21 [.pointer (some ⟨B, 0, none⟩), .int .i64 k, .int .i64 x] w fun v w' => v = .bool (getM k l).isSome ∧ TabAt (Value.int .i64) 85 w' B M most last (if (getM k l).isSome then setM k x l else l) ∧ Fm (fun i => i = M) w w' := by
  refine vc21 ⟨B, 0, none⟩ k x w _ (rd_of (v := .map (some M)) (cellOf h.1 rfl) ?_)
  refine lookup_ok (z := 0) (by rw [row83]) (by rw [row3]) (by rw [row3]) h.2 ?_
  simp only [isB_i, isK_i, isP_i, isTup_i, isInt_i, isSl_i, isPtr_i, isCs_i, isStr_i, isFn_i, isIf_i, rd_i, br_t, br_f, orO_s, orO_n, gd_t, bv_add, bv_sub, bv_mul, bv_eql, bv_neq, bv_lss, bv_leq, bv_gtr, bv_geq, bv_quo, bv_rem, bv_shl, bv_shr, bv_seq, bv_sne, bv_ptr, bv_if, bv_map, bv_nf, bv_bool, bv_sl, bv_fn, uv_not, uv_neg, eqV, nilV, nc_ptr, nc_fn, nc_if, Option.map_some, toN, Nat.mul_one, implies_true, true_and, and_true, and_self, List.getElem?_cons_zero, List.getElem?_cons_succ]
  cases hk : (getM k l).isSome with
  | true =>
    refine rd_of (v := .map (some M)) (cellOf h.1 rfl) ?_
    refine update_ok (v := x) (by rw [row83]) (by rw [row3]) h.2 fun w' hm hf => ?_
    exact ⟨⟨hf.keep h.1 h.ne, hm⟩, hf⟩
  | false => exact ⟨h, Fm.refl _ _⟩

theorem new22_c (a : Int) (w : World) : callV Try.prog 22 [.int .i64 a] w fun v w' => ∃ B M, v = .pointer (some ⟨B, 0, none⟩) ∧ w.heap.size ≤ B ∧ w.heap.size ≤ M ∧ TabAt Value.string 88 w' B M (max a 1) 0 [] ∧ Fm none' w w' := by
  refine vc22 a w _ ?_
  refine makeM (enc := Value.string) (q := .i64) fun w1 hm hs hf => ?_
  refine allocC_of fun w2 hb hs2 hf2 => ?_
  exact ⟨_, _, rfl, by omega, Nat.le_refl _, ⟨hb, hm.keep hf2 id⟩, hf.trans hf2⟩
theorem len26_c {B M : Nat} {most last : Int} {l : List (Int × ByteArray)} {w : World} (h : TabAt Value.string 88 w B M most last l) : callV Try.prog 26 [.pointer (some ⟨B, 0, none⟩)] w fun v w' => v = .int .i64 l.length ∧ w' = w := by
  refine vc26 ⟨B, 0, none⟩ w _ (rd_of (v := .map (some M)) (cellOf h.1 rfl) ?_)
  exact lenM_ok (by rw [row86]) h.2 ⟨rfl, rfl⟩
set_option maxRecDepth 8000 in
theorem add23_c {B M : Nat} {most last : Int} {l : List (Int × ByteArray)} {w : World} (x : ByteArray) (h : TabAt Value.string 88 w B M most last l) (h0 : 0 ≤ last ∧ last < 4611686018427387904) :
    callV Try.prog 23 [.pointer (some ⟨B, 0, none⟩), .string x] w fun v w' => v = (if most ≤ l.length then .tuple #[.int .i64 0, .int .i64 5] else .tuple #[.int .i64 (last + 1), .int .i64 0]) ∧
      TabAt Value.string 88 w' B M most (if most ≤ l.length then last else last + 1) (if most ≤ l.length then l else setM (last + 1) x l) ∧ Fm (fun i => i = B ∨ i = M) w w' := by
  have hne := h.ne
  obtain ⟨hB, hM⟩ := h
  refine vc23 ⟨B, 0, none⟩ x w _ ?_
  have hB' : w.drew.heap[B]? = _ := hB
  have hM' := hM.keep (Fm.drew w) id
  refine ⟨fun w' => w'.heap[B]? = some (.cells #[.int .i64 most, .int .i64 last, .map (some M)] 88 (0, 0)) ∧ MapAt Value.string .i64 w' M l, ⟨hB', hM'⟩, ?_⟩
  simp only [addr_add, Nat.zero_add, isB_i, isK_i, isP_i, isTup_i, isInt_i, isSl_i, isPtr_i, isCs_i, isStr_i, isFn_i, isIf_i, rd_i, br_t, br_f, orO_s, orO_n, gd_t, bv_add, bv_sub, bv_mul, bv_eql, bv_neq, bv_lss, bv_leq, bv_gtr, bv_geq, bv_quo, bv_rem, bv_shl, bv_shr, bv_seq, bv_sne, bv_ptr, bv_if, bv_map, bv_nf, bv_bool, bv_sl, bv_fn, uv_not, uv_neg, eqV, nilV, nc_ptr, nc_fn, nc_if, Option.map_some, toN, Nat.mul_one, implies_true, true_and, and_true, and_self]
  refine rd_of (v := .map (some M)) (cellOf hB' rfl) ⟨fun w' hw => rd_of (cellOf hw.1 rfl) rfl, ?_⟩
  refine lenM_ok (by rw [row86]) hM' ⟨fun w' hw => lenM_ok (by rw [row86]) hw.2 ⟨rfl, rfl⟩, ?_⟩
  simp only [isB_i, isK_i, isP_i, isTup_i, isInt_i, isSl_i, isPtr_i, isCs_i, isStr_i, isFn_i, isIf_i, rd_i, br_t, br_f, orO_s, orO_n, gd_t, bv_add, bv_sub, bv_mul, bv_eql, bv_neq, bv_lss, bv_leq, bv_gtr, bv_geq, bv_quo, bv_rem, bv_shl, bv_shr, bv_seq, bv_sne, bv_ptr, bv_if, bv_map, bv_nf, bv_bool, bv_sl, bv_fn, uv_not, uv_neg, eqV, nilV, nc_ptr, nc_fn, nc_if, Option.map_some, toN, Nat.mul_one, implies_true, true_and, and_true, and_self]
  refine rd_of (v := .int .i64 most) (cellOf hB' rfl) ⟨fun w' hw => rd_of (cellOf hw.1 rfl) rfl, ?_⟩
  simp only [isB_i, isK_i, isP_i, isTup_i, isInt_i, isSl_i, isPtr_i, isCs_i, isStr_i, isFn_i, isIf_i, rd_i, br_t, br_f, orO_s, orO_n, gd_t, bv_add, bv_sub, bv_mul, bv_eql, bv_neq, bv_lss, bv_leq, bv_gtr, bv_geq, bv_quo, bv_rem, bv_shl, bv_shr, bv_seq, bv_sne, bv_ptr, bv_if, bv_map, bv_nf, bv_bool, bv_sl, bv_fn, uv_not, uv_neg, eqV, nilV, nc_ptr, nc_fn, nc_if, Option.map_some, toN, Nat.mul_one, implies_true, true_and, and_true, and_self]
  refine br_dec (fun hr => ?_) (fun hr => ?_)
  · rw [if_pos hr, if_pos hr, if_pos hr]
    exact ⟨rfl, ⟨hB', hM'⟩, (Fm.drew w).none⟩
  · rw [if_neg hr, if_neg hr, if_neg hr]
    refine rd_of (v := .int .i64 last) (cellOf hB' rfl) ?_
    simp only [isB_i, isK_i, isP_i, isTup_i, isInt_i, isSl_i, isPtr_i, isCs_i, isStr_i, isFn_i, isIf_i, rd_i, br_t, br_f, orO_s, orO_n, gd_t, bv_add, bv_sub, bv_mul, bv_eql, bv_neq, bv_lss, bv_leq, bv_gtr, bv_geq, bv_quo, bv_rem, bv_shl, bv_shr, bv_seq, bv_sne, bv_ptr, bv_if, bv_map, bv_nf, bv_bool, bv_sl, bv_fn, uv_not, uv_neg, eqV, nilV, nc_ptr, nc_fn, nc_if, Option.map_some, toN, Nat.mul_one, implies_true, true_and, and_true, and_self]
    rw [w64 (by omega)]
    refine stC_one hB' (by simp) rfl fun w2 hw2 hf2 => ?_
    have hw2' : w2.drew.heap[B]? = some (.cells #[.int .i64 most, .int .i64 (last + 1), .map (some M)] 88 (0, 0)) := hw2
    refine ⟨fun w' => w'.heap[B]? = some (.cells #[.int .i64 most, .int .i64 (last + 1), .map (some M)] 88 (0, 0)), hw2', ?_⟩
    refine rd_of (v := .map (some M)) (cellOf hw2' rfl) ⟨fun w' hw => rd_of (cellOf hw rfl) rfl, ?_⟩
    refine rd_of (v := .int .i64 (last + 1)) (cellOf hw2' rfl) ⟨fun w' hw => rd_of (cellOf hw rfl) rfl, ?_⟩
    simp only [isB_i, isK_i, isP_i, isTup_i, isInt_i, isSl_i, isPtr_i, isCs_i, isStr_i, isFn_i, isIf_i, rd_i, br_t, br_f, orO_s, orO_n, gd_t, bv_add, bv_sub, bv_mul, bv_eql, bv_neq, bv_lss, bv_leq, bv_gtr, bv_geq, bv_quo, bv_rem, bv_shl, bv_shr, bv_seq, bv_sne, bv_ptr, bv_if, bv_map, bv_nf, bv_bool, bv_sl, bv_fn, uv_not, uv_neg, eqV, nilV, nc_ptr, nc_fn, nc_if, Option.map_some, toN, Nat.mul_one, implies_true, true_and, and_true, and_self]
    refine update_ok (v := x) (by rw [row86]) (by rw [row3]) ((hM'.keep hf2 fun e => hne e.symm).keep (Fm.drew w2) id) fun w3 hM3 hf3 => ?_
    have hB3 := hf3.keep hw2' hne
    refine ⟨hB3, rd_of (v := .int .i64 (last + 1)) (cellOf hB3 rfl) ?_⟩
    simp only [isB_i, isK_i, isP_i, isTup_i, isInt_i, isSl_i, isPtr_i, isCs_i, isStr_i, isFn_i, isIf_i, rd_i, br_t, br_f, orO_s, orO_n, gd_t, bv_add, bv_sub, bv_mul, bv_eql, bv_neq, bv_lss, bv_leq, bv_gtr, bv_geq, bv_quo, bv_rem, bv_shl, bv_shr, bv_seq, bv_sne, bv_ptr, bv_if, bv_map, bv_nf, bv_bool, bv_sl, bv_fn, uv_not, uv_neg, eqV, nilV, nc_ptr, nc_fn, nc_if, Option.map_some, toN, Nat.mul_one, implies_true, true_and, and_true, and_self]
    exact ⟨⟨hB3, hM3⟩, (Fm.drew w).none.trans ((hf2.mono fun i _ h => .inl h).trans ((Fm.drew w2).none.trans (hf3.mono fun i _ h => .inr h)))⟩
theorem get41_c {B M : Nat} {most last : Int} {l : List (Int × ByteArray)} {w : World} (k : Int) (h : TabAt Value.string 88 w B M most last l) :
    callV Try.prog 41 [.pointer (some ⟨B, 0, none⟩), .int .i64 k] w fun v w' => v = .tuple #[Value.string ((getM k l).getD ⟨#[]⟩), .bool (getM k l).isSome] ∧ w' = w := by
  refine vc41 ⟨B, 0, none⟩ k w _ (rd_of (v := .map (some M)) (cellOf h.1 rfl) ?_)
  refine lookup_ok (z := ⟨#[]⟩) (by rw [row86]) (by rw [row3]) (by rw [row9]) h.2 ?_
  simp only [isB_i, isK_i, isP_i, isTup_i, isInt_i, isSl_i, isPtr_i, isCs_i, isStr_i, isFn_i, isIf_i, rd_i, br_t, br_f, orO_s, orO_n, gd_t, bv_add, bv_sub, bv_mul, bv_eql, bv_neq, bv_lss, bv_leq, bv_gtr, bv_geq, bv_quo, bv_rem, bv_shl, bv_shr, bv_seq, bv_sne, bv_ptr, bv_if, bv_map, bv_nf, bv_bool, bv_sl, bv_fn, uv_not, uv_neg, eqV, nilV, nc_ptr, nc_fn, nc_if, Option.map_some, toN, Nat.mul_one, implies_true, true_and, and_true, and_self, List.getElem?_cons_zero, List.getElem?_cons_succ]
theorem drop24_c {B M : Nat} {most last : Int} {l : List (Int × ByteArray)} {w : World} (k : Int) (h : TabAt Value.string 88 w B M most last l) :
    callV Try.prog 24 [.pointer (some ⟨B, 0, none⟩), .int .i64 k] w fun v w' => v = .bool (getM k l).isSome ∧ TabAt Value.string 88 w' B M most last (delM k l) ∧ Fm (fun i => i = M) w w' := by
  refine vc24 ⟨B, 0, none⟩ k w _ (rd_of (v := .map (some M)) (cellOf h.1 rfl) ?_)
  refine lookup_ok (z := ⟨#[]⟩) (by rw [row86]) (by rw [row3]) (by rw [row9]) h.2 ?_
  simp only [isB_i, isK_i, isP_i, isTup_i, isInt_i, isSl_i, isPtr_i, isCs_i, isStr_i, isFn_i, isIf_i, rd_i, br_t, br_f, orO_s, orO_n, gd_t, bv_add, bv_sub, bv_mul, bv_eql, bv_neq, bv_lss, bv_leq, bv_gtr, bv_geq, bv_quo, bv_rem, bv_shl, bv_shr, bv_seq, bv_sne, bv_ptr, bv_if, bv_map, bv_nf, bv_bool, bv_sl, bv_fn, uv_not, uv_neg, eqV, nilV, nc_ptr, nc_fn, nc_if, Option.map_some, toN, Nat.mul_one, implies_true, true_and, and_true, and_self, List.getElem?_cons_zero, List.getElem?_cons_succ]
  refine rd_of (v := .map (some M)) (cellOf h.1 rfl) ?_
  refine delete_ok (by rw [row86]) (by rw [row3]) h.2 fun w' hm hf => ?_
  exact ⟨⟨hf.keep h.1 h.ne, hm⟩, hf⟩
theorem put25_c {B M : Nat} {most last : Int} {l : List (Int × ByteArray)} {w : World} (k : Int) (x : ByteArray) (h : TabAt Value.string 88 w B M most last l) :
    callV Try.prog 25 [.pointer (some ⟨B, 0, none⟩), .int .i64 k, .string x] w fun v w' => v = .bool (getM k l).isSome ∧ TabAt Value.string 88 w' B M most last (if (getM k l).isSome then setM k x l else l) ∧ Fm (fun i => i = M) w w' := by
  refine vc25 ⟨B, 0, none⟩ k x w _ (rd_of (v := .map (some M)) (cellOf h.1 rfl) ?_)
  refine lookup_ok (z := ⟨#[]⟩) (by rw [row86]) (by rw [row3]) (by rw [row9]) h.2 ?_
  simp only [isB_i, isK_i, isP_i, isTup_i, isInt_i, isSl_i, isPtr_i, isCs_i, isStr_i, isFn_i, isIf_i, rd_i, br_t, br_f, orO_s, orO_n, gd_t, bv_add, bv_sub, bv_mul, bv_eql, bv_neq, bv_lss, bv_leq, bv_gtr, bv_geq, bv_quo, bv_rem, bv_shl, bv_shr, bv_seq, bv_sne, bv_ptr, bv_if, bv_map, bv_nf, bv_bool, bv_sl, bv_fn, uv_not, uv_neg, eqV, nilV, nc_ptr, nc_fn, nc_if, Option.map_some, toN, Nat.mul_one, implies_true, true_and, and_true, and_self, List.getElem?_cons_zero, List.getElem?_cons_succ]
  cases hk : (getM k l).isSome with
  | true =>
    refine rd_of (v := .map (some M)) (cellOf h.1 rfl) ?_
    refine update_ok (v := x) (by rw [row86]) (by rw [row3]) h.2 fun w' hm hf => ?_
    exact ⟨⟨hf.keep h.1 h.ne, hm⟩, hf⟩
  | false => exact ⟨h, Fm.refl _ _⟩
end Go.Proofs.Ytlhgibiffekpfaa
