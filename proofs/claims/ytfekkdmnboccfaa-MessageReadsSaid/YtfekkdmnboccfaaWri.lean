/- message: what a writer does with a field.  Conditions: the writer lies as it is said to lie; the field is elsewhere. -/
import Derived.Test.YtfekkdmnboccfaaPut
namespace Go.Proofs.Ytfekkdmnboccfaa
set_option linter.unusedSimpArgs false
set_option linter.unusedVariables false
open Go Go.RowKit VC
/-- The writer at A has these bits more; wrong, if it was, or bad. -/
def WrP (base A : Nat) (T : TypeId) (wr : Bool) (bs : List Int) (g : Option Nat) (w : World) (bits : List Int) (bad : Bool) (v : Value) (w' : World) : Prop :=
  v = .tuple #[] ∧ ∃ g', WrAt w' base A T (.bool (wr || bad)) (bs ++ bits) g' ∧ (g' = g ∨ ∃ b, g' = some b ∧ w.heap.size ≤ b) ∧ Fm (fun i => i = A ∨ g = some i) w w'
variable {w : World} {base A : Nat} {T : TypeId} {wr : Bool} {bs : List Int} {g : Option Nat}
theorem WrAt.lt {x : Value} (h : WrAt w base A T x bs g) : A < w.heap.size ∧ (∀ i, g = some i → i < w.heap.size) :=
  ⟨by obtain ⟨v, h1, _⟩ := h; exact lt_of_blk h1, fun i hi => by obtain ⟨_, c, t, hc⟩ := h.cellsG hi; exact lt_of_blk hc⟩
/-- Blocks that were there stay apart from the writer's. -/
theorem apart_of {g' : Option Nat} {i n : Nat} (hi : i < n) (h : g ≠ some i) (hg : g' = g ∨ ∃ b, g' = some b ∧ n ≤ b) : g' ≠ some i := by
  rcases hg with e | ⟨b, e, hb⟩
  · rw [e]; exact h
  · rw [e]; intro h; cases h; omega
theorem fm_trans {w1 w2 : World} {g1 : Option Nat} (h1 : Fm (fun i => i = A ∨ g = some i) w w1) (hg : g1 = g ∨ ∃ b, g1 = some b ∧ w.heap.size ≤ b) (h2 : Fm (fun i => i = A ∨ g1 = some i) w1 w2) : Fm (fun i => i = A ∨ g = some i) w w2 :=
  h1.trans' h2 fun i hi e => by
    rcases e with e | e
    · exact .inl e
    · rcases hg with e' | ⟨b, e', hb⟩
      · exact .inr (e' ▸ e)
      · rw [e'] at e; cases e; omega
theorem grow_trans {g1 g2 : Option Nat} {n n1 : Nat} (h : n ≤ n1) (h1 : g1 = g ∨ ∃ b, g1 = some b ∧ n ≤ b) (h2 : g2 = g1 ∨ ∃ b, g2 = some b ∧ n1 ≤ b) : g2 = g ∨ ∃ b, g2 = some b ∧ n ≤ b := by
  rcases h2 with e | ⟨b, e, hb⟩
  · rw [e]; exact h1
  · exact .inr ⟨b, e, by omega⟩
theorem within83_c (b : Bool) (h : WrAt w base A T (.bool wr) bs g) : callV Try.prog 83 [.pointer (some ⟨A, 0, none⟩), .bool b] w (WrP base A T wr bs g w [] (!b)) := by
  refine vc83 ⟨A, 0, none⟩ b w _ ?_
  obtain ⟨v, h1, h2, h3, h4, h5⟩ := h
  simp only [addr_add, Nat.zero_add]
  refine rd_of (v := .bool wr) (cellOf h1 rfl) ?_
  simp only [isB_i, isK_i, isP_i, isTup_i, isInt_i, isSl_i, isPtr_i, isCs_i, isStr_i, isFn_i, isIf_i, rd_i, br_t, br_f, orO_s, orO_n, gd_t, bv_add, bv_sub, bv_mul, bv_eql, bv_neq, bv_lss, bv_leq, bv_gtr, bv_geq, bv_quo, bv_rem, bv_shl, bv_shr, bv_seq, bv_sne, bv_ptr, bv_if, bv_map, bv_nf, bv_bool, bv_sl, bv_fn, uv_not, uv_neg, eqV, nilV, nc_ptr, nc_fn, nc_if, Option.map_some, toN, Nat.mul_one, implies_true, true_and, and_true, and_self]
  have fin : ∀ (b' : Bool), b' = (wr || !b) → stC w ⟨A, 2, none⟩ [.bool b'] fun w2 => WrP base A T wr bs g w [] (!b) (.tuple #[]) w2 := by
    intro b' hb'
    refine stC_one h1 (by simp) rfl fun w2 hA2 hf2 => ⟨rfl, g, ?_, .inl rfl, hf2.mono fun i _ e => .inl e⟩
    rw [List.append_nil, ← hb']
    exact ⟨v, hA2, hf2.owns h2 fun i hi e => h4 (by rw [← h3, hi, e]), h3, h4, Nat.le_trans h5 hf2.size⟩
  cases wr with
  | true => exact fin _ rfl
  | false => exact fin _ rfl
theorem whole82_c {b : Addr} {n : Int} {k : Nat} (hk : k ≤ 64) (h : WrAt w base A T (.bool wr) bs g) (hb : w.cell? b = some (.int .u64 n)) (hbA : b.block ≠ A) (hbg : g ≠ some b.block) (hlen : bs.length + k ≤ 1125899906842000) :
    callV Try.prog 82 [.pointer (some ⟨A, 0, none⟩), .pointer (some b), .int .i64 k] w (WrP base A T wr bs g w (bitsOf n k) (!decide (n.fdiv (2 ^ (min k 64)) = 0))) := by
  refine vc82 ⟨A, 0, none⟩ b k w _ (rd_of hb ?_)
  simp only [isB_i, isK_i, isP_i, isTup_i, isInt_i, isSl_i, isPtr_i, isCs_i, isStr_i, isFn_i, isIf_i, rd_i, br_t, br_f, orO_s, orO_n, gd_t, bv_add, bv_sub, bv_mul, bv_eql, bv_neq, bv_lss, bv_leq, bv_gtr, bv_geq, bv_quo, bv_rem, bv_shl, bv_shr, bv_seq, bv_sne, bv_ptr, bv_if, bv_map, bv_nf, bv_bool, bv_sl, bv_fn, uv_not, uv_neg, eqV, nilV, nc_ptr, nc_fn, nc_if, Option.map_some, toN, Nat.mul_one, implies_true, true_and, and_true, and_self]
  rw [show (IntKind.bits .u64) = 64 from rfl]
  refine (within83_c _ h).mono ?_
  rintro _ w5 ⟨rfl, g1, hw1, hg1, hf1⟩
  have hb1 : w5.drew.cell? b = some (.int .u64 n) := (Fm.drew w5).cell (hf1.cell hb (by rintro (e | e); exact hbA e; exact hbg e)) id
  have hw1' := hw1.keep (Fm.drew w5) id fun _ _ y => y
  refine ⟨fun w' => w'.cell? b = some (.int .u64 n), hb1, ?_⟩
  refine rd_of hb1 ⟨fun w' hw => rd_of hw rfl, ?_⟩
  simp only [isB_i, isK_i, isP_i, isTup_i, isInt_i, isSl_i, isPtr_i, isCs_i, isStr_i, isFn_i, isIf_i, rd_i, br_t, br_f, orO_s, orO_n, gd_t, bv_add, bv_sub, bv_mul, bv_eql, bv_neq, bv_lss, bv_leq, bv_gtr, bv_geq, bv_quo, bv_rem, bv_shl, bv_shr, bv_seq, bv_sne, bv_ptr, bv_if, bv_map, bv_nf, bv_bool, bv_sl, bv_fn, uv_not, uv_neg, eqV, nilV, nc_ptr, nc_fn, nc_if, Option.map_some, toN, Nat.mul_one, implies_true, true_and, and_true, and_self]
  rw [List.append_nil] at hw1'
  have hbl : b.block < w.heap.size := by
    unfold World.cell? at hb
    cases ho : w.heap[b.block]? with
    | none => rw [ho] at hb; simp at hb
    | some o => exact lt_of_blk ho
  have hbg1 := apart_of hbl hbg hg1
  refine (put21_c n k hk hw1' hlen).mono ?_
  rintro _ w25 ⟨rfl, g2, hw2, hg2, hf2⟩
  refine ⟨hf2.cell hb1 (by rintro (e | e); exact hbA e; exact hbg1 e), rfl, g2, hw2, grow_trans (by exact hf1.size) hg1 hg2, fm_trans (hf1.trans (Fm.drew w5).none) hg1 hf2⟩
theorem signed81_c {b : Addr} {n : Int} {k : Nat} (hk : k ≤ 64) (h : WrAt w base A T (.bool wr) bs g) (hb : w.cell? b = some (.int .i64 n)) (hbA : b.block ≠ A) (hbg : g ≠ some b.block) (hlen : bs.length + k ≤ 1125899906842000) :
    callV Try.prog 81 [.pointer (some ⟨A, 0, none⟩), .pointer (some b), .int .i64 k] w (WrP base A T wr bs g w (bitsOf (IntKind.u64.wrap n) k) (!decide ((IntKind.i64.wrap (n * 2 ^ (64 - k))).fdiv (2 ^ (64 - k)) = n))) := by
  refine vc81 ⟨A, 0, none⟩ b k w _ ?_
  have hb0 : w.drew.cell? b = some (.int .i64 n) := (Fm.drew w).cell hb id
  have hw0 := h.keep (Fm.drew w) id fun _ _ y => y
  have hbl : b.block < w.heap.size := by
    unfold World.cell? at hb
    cases ho : w.heap[b.block]? with
    | none => rw [ho] at hb; simp at hb
    | some o => exact lt_of_blk ho
  rw [w64 (by omega), show ((64 : Int) - (k : Int)) = ((64 - k : Nat) : Int) by omega]
  refine ⟨fun w' => w'.cell? b = some (.int .i64 n), hb0, ?_⟩
  simp only [isB_i, isK_i, isP_i, isTup_i, isInt_i, isSl_i, isPtr_i, isCs_i, isStr_i, isFn_i, isIf_i, rd_i, br_t, br_f, orO_s, orO_n, gd_t, bv_add, bv_sub, bv_mul, bv_eql, bv_neq, bv_lss, bv_leq, bv_gtr, bv_geq, bv_quo, bv_rem, bv_shl, bv_shr, bv_seq, bv_sne, bv_ptr, bv_if, bv_map, bv_nf, bv_bool, bv_sl, bv_fn, uv_not, uv_neg, eqV, nilV, nc_ptr, nc_fn, nc_if, Option.map_some, toN, Nat.mul_one, implies_true, true_and, and_true, and_self]
  refine rd_of hb0 ⟨fun w' hw => rd_of hw rfl, ?_⟩
  simp only [isB_i, isK_i, isP_i, isTup_i, isInt_i, isSl_i, isPtr_i, isCs_i, isStr_i, isFn_i, isIf_i, rd_i, br_t, br_f, orO_s, orO_n, gd_t, bv_add, bv_sub, bv_mul, bv_eql, bv_neq, bv_lss, bv_leq, bv_gtr, bv_geq, bv_quo, bv_rem, bv_shl, bv_shr, bv_seq, bv_sne, bv_ptr, bv_if, bv_map, bv_nf, bv_bool, bv_sl, bv_fn, uv_not, uv_neg, eqV, nilV, nc_ptr, nc_fn, nc_if, Option.map_some, toN, Nat.mul_one, implies_true, true_and, and_true, and_self]
  rw [show min (64 - k) IntKind.i64.bits = 64 - k from Nat.min_eq_left (by have : IntKind.i64.bits = 64 := rfl; omega)]
  refine rd_of hb0 ⟨fun w' hw => rd_of hw rfl, ?_⟩
  simp only [isB_i, isK_i, isP_i, isTup_i, isInt_i, isSl_i, isPtr_i, isCs_i, isStr_i, isFn_i, isIf_i, rd_i, br_t, br_f, orO_s, orO_n, gd_t, bv_add, bv_sub, bv_mul, bv_eql, bv_neq, bv_lss, bv_leq, bv_gtr, bv_geq, bv_quo, bv_rem, bv_shl, bv_shr, bv_seq, bv_sne, bv_ptr, bv_if, bv_map, bv_nf, bv_bool, bv_sl, bv_fn, uv_not, uv_neg, eqV, nilV, nc_ptr, nc_fn, nc_if, Option.map_some, toN, Nat.mul_one, implies_true, true_and, and_true, and_self]
  refine (within83_c _ hw0).mono ?_
  rintro _ w5 ⟨rfl, g1, hw1, hg1, hf1⟩
  have hF1 : Fm (fun i => i = A ∨ g = some i) w w5 := (Fm.drew w).none.trans hf1
  have hb1 : w5.drew.cell? b = some (.int .i64 n) := (Fm.drew w5).cell (hF1.cell hb (by rintro (e | e); exact hbA e; exact hbg e)) id
  have hb1' : w5.cell? b = some (.int .i64 n) := hb1
  have hw1' := hw1.keep (Fm.drew w5) id fun _ _ y => y
  refine ⟨hb1', fun w' => w'.cell? b = some (.int .i64 n), hb1, ?_⟩
  simp only [isB_i, isK_i, isP_i, isTup_i, isInt_i, isSl_i, isPtr_i, isCs_i, isStr_i, isFn_i, isIf_i, rd_i, br_t, br_f, orO_s, orO_n, gd_t, bv_add, bv_sub, bv_mul, bv_eql, bv_neq, bv_lss, bv_leq, bv_gtr, bv_geq, bv_quo, bv_rem, bv_shl, bv_shr, bv_seq, bv_sne, bv_ptr, bv_if, bv_map, bv_nf, bv_bool, bv_sl, bv_fn, uv_not, uv_neg, eqV, nilV, nc_ptr, nc_fn, nc_if, Option.map_some, toN, Nat.mul_one, implies_true, true_and, and_true, and_self]
  refine rd_of hb1 ⟨fun w' hw => rd_of hw rfl, ?_⟩
  simp only [isB_i, isK_i, isP_i, isTup_i, isInt_i, isSl_i, isPtr_i, isCs_i, isStr_i, isFn_i, isIf_i, rd_i, br_t, br_f, orO_s, orO_n, gd_t, bv_add, bv_sub, bv_mul, bv_eql, bv_neq, bv_lss, bv_leq, bv_gtr, bv_geq, bv_quo, bv_rem, bv_shl, bv_shr, bv_seq, bv_sne, bv_ptr, bv_if, bv_map, bv_nf, bv_bool, bv_sl, bv_fn, uv_not, uv_neg, eqV, nilV, nc_ptr, nc_fn, nc_if, Option.map_some, toN, Nat.mul_one, implies_true, true_and, and_true, and_self]
  rw [List.append_nil] at hw1'
  have hbg1 := apart_of hbl hbg hg1
  refine vc84 ⟨A, 0, none⟩ n k w5.drew _ ?_
  refine (put21_c (IntKind.u64.wrap n) k hk hw1' hlen).mono ?_
  rintro _ w25 ⟨rfl, g2, hw2, hg2, hf2⟩
  refine ⟨hf2.cell hb1 (by rintro (e | e); exact hbA e; exact hbg1 e), rfl, g2, hw2, grow_trans (by exact hF1.size) hg1 hg2, fm_trans (hF1.trans (Fm.drew w5).none) hg1 hf2⟩
end Go.Proofs.Ytfekkdmnboccfaa
