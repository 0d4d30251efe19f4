/- The reference's ring: what its Push does.  Conditions: it lies as it is said. -/
import Derived.Test.YtlhgibiffekpfaaG
namespace Go.Proofs.Ytlhgibiffekpfaa
set_option linter.unusedSimpArgs false
set_option linter.unusedVariables false
open Go Go.RowKit VC
/-- The reference's ring lies at Q; its row lies in block q. -/
def RefG (w : World) (Q : Nat) (most : Int) (buf : List Int) (q : Option Nat) : Prop :=
  ∃ p n c, w.heap[Q]? = some (.cells #[.int .i64 most, .slice p n c] 52 (0, 0)) ∧ n = buf.length ∧ n ≤ c ∧ (∀ i, q = some i → ∃ cur, w.heap[i]? = some (.cells cur 3 (0, 0))) ∧
    ∀ (j : Nat) (x : Value), (buf.map (Value.int .i64))[j]? = some x → ∃ i o, p = some ⟨i, o, none⟩ ∧ q = some i ∧ w.cell? ⟨i, o + j, none⟩ = some x
variable {w : World} {Q : Nat} {most : Int} {buf : List Int} {q : Option Nat}
theorem RefG.lt (h : RefG w Q most buf q) : Q < w.heap.size ∧ ∀ i, q = some i → i < w.heap.size ∧ i ≠ Q := by
  obtain ⟨p, n, c, h1, h2, h3, h4, h5⟩ := h
  refine ⟨lt_of_blk h1, fun i hi => ?_⟩
  obtain ⟨cur, hc⟩ := h4 i hi
  exact ⟨lt_of_blk hc, by rintro rfl; rw [h1] at hc; cases hc⟩
theorem RefG.keep {w' : World} {S : Nat → Prop} (h : RefG w Q most buf q) (f : Fm S w w') (hQ : ¬ S Q) (hq : ∀ i, q = some i → ¬ S i) : RefG w' Q most buf q := by
  obtain ⟨p, n, c, h1, h2, h3, h4, h5⟩ := h
  refine ⟨p, n, c, f.keep h1 hQ, h2, h3, fun i hi => ?_, fun j x hj => ?_⟩
  · obtain ⟨cur, hc⟩ := h4 i hi; exact ⟨cur, f.keep hc (hq i hi)⟩
  · obtain ⟨i, o, e1, e2, hc⟩ := h5 j x hj; exact ⟨i, o, e1, e2, f.cell hc (hq i e2)⟩
theorem push29_c (x : Int) (h : RefG w Q most buf q) (hn : buf.length ≤ 4096) :
    callV Try.prog 29 [.pointer (some ⟨Q, 0, none⟩), .int .i64 x] w fun v w' => v = (if ((buf.length : Int) + 1 ≤ max most 1) then .tuple #[.int .i64 0, .bool false] else .tuple #[.int .i64 ((buf ++ [x]).headD 0), .bool true]) ∧
      (∃ q', RefG w' Q most (if ((buf.length : Int) + 1 ≤ max most 1) then buf ++ [x] else (buf ++ [x]).tail) q' ∧ ∃ b, q' = some b ∧ w.heap.size ≤ b) ∧ Fm (fun i => i = Q) w w' := by
  obtain ⟨p, n, c, h1, rfl, hnc, h4, h5⟩ := h
  refine vc29 ⟨Q, 0, none⟩ x w _ ?_
  refine build_none (by rw [row31]) row3 fun s w1 ho1 hs1 hf1 => ?_
  obtain ⟨p0, c0, rfl, -⟩ := own_read ho1
  have hQ1 := hf1.keep h1 id
  have hQlt := lt_of_blk h1
  have c1 : w1.cell? ⟨Q, 1, none⟩ = some (.slice p buf.length c) := cellOf hQ1 rfl
  simp only [addr_add, Nat.zero_add, c1, isB_i, isK_i, isP_i, isTup_i, isInt_i, isSl_i, isPtr_i, isCs_i, isStr_i, isFn_i, isIf_i, rd_i, br_t, br_f, orO_s, orO_n, gd_t, bv_add, bv_sub, bv_mul, bv_eql, bv_neq, bv_lss, bv_leq, bv_gtr, bv_geq, bv_quo, bv_rem, bv_shl, bv_shr, bv_seq, bv_sne, bv_ptr, bv_if, bv_map, bv_nf, bv_bool, bv_sl, bv_fn, uv_not, uv_neg, eqV, nilV, nc_ptr, nc_fn, nc_if, Option.map_some, toN, Nat.mul_one, implies_true, true_and, and_true, and_self]
  refine append_r (ys := buf.map (Value.int .i64)) (by rw [row31]) row3 rfl ho1 (by simp) (by simp [Value.oneCell']) (fun j y hj => ?_) (Nat.le_of_lt hs1) (by unfold maxLen; omega) (by omega) ?_
  · obtain ⟨i, o, e1, e2, hc⟩ := h5 j y hj
    exact ⟨_, e1, by rw [addr_add]; exact hf1.cell hc id⟩
  intro p2 c2 w2 ho2 hf2 hg2
  simp only [isB_i, isK_i, isP_i, isTup_i, isInt_i, isSl_i, isPtr_i, isCs_i, isStr_i, isFn_i, isIf_i, rd_i, br_t, br_f, orO_s, orO_n, gd_t, bv_add, bv_sub, bv_mul, bv_eql, bv_neq, bv_lss, bv_leq, bv_gtr, bv_geq, bv_quo, bv_rem, bv_shl, bv_shr, bv_seq, bv_sne, bv_ptr, bv_if, bv_map, bv_nf, bv_bool, bv_sl, bv_fn, uv_not, uv_neg, eqV, nilV, nc_ptr, nc_fn, nc_if, Option.map_some, toN, Nat.mul_one, implies_true, true_and, and_true, and_self]
  have hfr1 : ∀ i, Value.ownBlock (.slice p0 0 c0) = some i → w.heap.size ≤ i := fun i hi => (own_block ho1 hi).1
  refine append_1g (by rw [row31]) row3 rfl rfl ho2 (Nat.le_trans hf1.size hf2.size) (by unfold maxLen; omega) (by omega) ?_
  intro p3 c3 w3 ho3 hf3 hg3
  have hfr2 : ∀ i, Value.ownBlock (.slice p2 (0 + buf.length) c2) = some i → w.heap.size ≤ i := fun i hi => (own_block ho2 hi).1
  have hF3 : Fm none' w w3 := (hf1.trans' hf2 fun i hi e => by have := hfr1 i e; omega).trans' hf3 fun i hi e => by have := hfr2 i e; omega
  have hQ3 := hF3.keep h1 id
  simp only [isB_i, isK_i, isP_i, isTup_i, isInt_i, isSl_i, isPtr_i, isCs_i, isStr_i, isFn_i, isIf_i, rd_i, br_t, br_f, orO_s, orO_n, gd_t, bv_add, bv_sub, bv_mul, bv_eql, bv_neq, bv_lss, bv_leq, bv_gtr, bv_geq, bv_quo, bv_rem, bv_shl, bv_shr, bv_seq, bv_sne, bv_ptr, bv_if, bv_map, bv_nf, bv_bool, bv_sl, bv_fn, uv_not, uv_neg, eqV, nilV, nc_ptr, nc_fn, nc_if, Option.map_some, toN, Nat.mul_one, implies_true, true_and, and_true, and_self]
  refine stC_one hQ3 (by simp) rfl fun w4 hw4 hf4 => ?_
  have hfr3 : ∀ i, Value.ownBlock (.slice p3 (0 + buf.length + 1) c3) = some i → w.heap.size ≤ i := fun i hi => (own_block ho3 hi).1
  have ho4 := hf4.owns ho3 fun i hi e => by have := hfr3 i hi; omega
  have hF4 : Fm (fun i => i = Q) w w4 := hF3.none.trans hf4
  have k1 : w4.cell? ⟨Q, 1, none⟩ = some (.slice p3 (0 + buf.length + 1) c3) := cellOf hw4 rfl
  have k0 : w4.cell? ⟨Q, 0, none⟩ = some (.int .i64 most) := cellOf hw4 rfl
  obtain ⟨-, hlen4⟩ : True ∧ ([] ++ buf.map (Value.int .i64) ++ [Value.int .i64 x]).length = 0 + buf.length + 1 := ⟨trivial, by simp⟩
  obtain ⟨gb, capb, curb, hv, hgb, hbb, hnb, hcb, hsb, htb⟩ : ∃ gb cap cur, Value.slice p3 (0 + buf.length + 1) c3 = .slice (some ⟨gb, 0, none⟩) (0 + buf.length + 1) cap ∧ w.heap.size ≤ gb ∧ w4.heap[gb]? = some (.cells cur 3 (0, 0)) ∧ 0 + buf.length + 1 ≤ cap ∧ cap ≤ maxLen ∧ cur.size = cap ∧ cur.toList.take (0 + buf.length + 1) = [] ++ buf.map (Value.int .i64) ++ [.int .i64 x] := by
    rcases ho4.2 with ⟨h, hz⟩ | ⟨g, cap, cur, hv, hg, hb, hn, hc, hs, ht⟩
    · omega
    · exact ⟨g, cap, cur, hv, hg, hb, hn, hc, by simpa using hs, by simpa using ht⟩
  cases hv
  have hcell : ∀ (j : Nat) (y : Value), ((buf ++ [x]).map (Value.int .i64))[j]? = some y → w4.cell? ⟨gb, j, none⟩ = some y := fun j y hj => by
    refine cellOf hbb ?_
    have : (curb.toList.take (0 + buf.length + 1))[j]? = some y := by rw [htb]; simpa using hj
    rw [List.getElem?_take] at this
    split at this
    · simpa using this
    · cases this
  have hfull : RefG w4 Q most (buf ++ [x]) (some gb) := ⟨_, _, _, hw4, by simp, hnb, fun i hi => by cases hi; exact ⟨_, hbb⟩, fun j y hj => ⟨gb, 0, rfl, rfl, by rw [Nat.zero_add]; exact hcell j y hj⟩⟩
  simp only [cell_drew, k1, k0, isB_i, isK_i, isP_i, isTup_i, isInt_i, isSl_i, isPtr_i, isCs_i, isStr_i, isFn_i, isIf_i, rd_i, br_t, br_f, orO_s, orO_n, gd_t, bv_add, bv_sub, bv_mul, bv_eql, bv_neq, bv_lss, bv_leq, bv_gtr, bv_geq, bv_quo, bv_rem, bv_shl, bv_shr, bv_seq, bv_sne, bv_ptr, bv_if, bv_map, bv_nf, bv_bool, bv_sl, bv_fn, uv_not, uv_neg, eqV, nilV, nc_ptr, nc_fn, nc_if, Option.map_some, toN, Nat.mul_one, implies_true, true_and, and_true, and_self]
  have hd : Fm none' w4 w4.drew := Fm.drew w4
  refine br_dec (fun hm => ?_) (fun hm => ?_)
  · rw [if_pos (by omega), if_pos (by omega)]
    exact ⟨rfl, ⟨_, hfull.keep hd id (fun _ _ => id), _, rfl, hgb⟩, hF4.trans hd.none⟩
  · rw [if_neg (by omega), if_neg (by omega)]
    have k2 : w4.cell? ⟨gb, 0, none⟩ = some (.int .i64 ((buf ++ [x]).headD 0)) := hcell 0 _ (by cases buf <;> rfl)
    simp only [k2, isB_i, isK_i, isP_i, isTup_i, isInt_i, isSl_i, isPtr_i, isCs_i, isStr_i, isFn_i, isIf_i, rd_i, br_t, br_f, orO_s, orO_n, gd_t, bv_add, bv_sub, bv_mul, bv_eql, bv_neq, bv_lss, bv_leq, bv_gtr, bv_geq, bv_quo, bv_rem, bv_shl, bv_shr, bv_seq, bv_sne, bv_ptr, bv_if, bv_map, bv_nf, bv_bool, bv_sl, bv_fn, uv_not, uv_neg, eqV, nilV, nc_ptr, nc_fn, nc_if, Option.map_some, toN, Nat.mul_one, implies_true, true_and, and_true, and_self]
    refine ⟨by omega, ?_⟩
    refine sliceAt_lo (by rw [row31]) row3 (by omega) (by omega) ?_
    simp only [isB_i, isK_i, isP_i, isTup_i, isInt_i, isSl_i, isPtr_i, isCs_i, isStr_i, isFn_i, isIf_i, rd_i, br_t, br_f, orO_s, orO_n, gd_t, bv_add, bv_sub, bv_mul, bv_eql, bv_neq, bv_lss, bv_leq, bv_gtr, bv_geq, bv_quo, bv_rem, bv_shl, bv_shr, bv_seq, bv_sne, bv_ptr, bv_if, bv_map, bv_nf, bv_bool, bv_sl, bv_fn, uv_not, uv_neg, eqV, nilV, nc_ptr, nc_fn, nc_if, Option.map_some, toN, Nat.mul_one, implies_true, true_and, and_true, and_self]
    have hw4' : w4.drew.heap[Q]? = _ := hw4
    refine stC_one hw4' (by simp) rfl fun w5 hw5 hf5 => ?_
    refine ⟨⟨some gb, ⟨_, _, _, hw5, ?_, ?_, fun i hi => ?_, fun j y hj => ?_⟩, _, rfl, hgb⟩, (hF4.trans hd.none).trans hf5⟩
    · simp
    · omega
    · cases hi; exact ⟨_, hf5.keep (w := w4.drew) hbb (by omega)⟩
    · refine ⟨gb, 1, ?_, rfl, ?_⟩
      · have : 1 ≤ j + 1 ∧ j < buf.length := by
          have := (List.getElem?_eq_some_iff.1 hj).1
          simp at this; omega
        rw [if_neg (by omega)]
        simp [addr_add]
      · refine hf5.cell (w := w4.drew) (hcell (1 + j) y ?_) (by simp; omega)
        rw [List.map_tail, List.getElem?_tail] at hj
        rw [Nat.add_comm]; exact hj
end Go.Proofs.Ytlhgibiffekpfaa
