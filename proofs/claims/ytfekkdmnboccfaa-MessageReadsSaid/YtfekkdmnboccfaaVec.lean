/- message: id and vec of a writer.  Conditions: the writer lies as it is said to lie; the fields are cells of another block. -/
import Derived.Test.YtfekkdmnboccfaaNum
import Derived.Test.YtfekkdmnboccfaaC1
namespace Go.Proofs.Ytfekkdmnboccfaa
set_option linter.unusedSimpArgs false
set_option linter.unusedVariables false
open Go Go.RowKit VC
variable {w : World} {base A : Nat} {T : TypeId} {wr : Bool} {bs : List Int} {g : Option Nat}
/-- One step of a writer behind another. -/
theorem WrP.seq {w1 w2 : World} {b1 b2 : List Int} {d1 d2 : Bool} {v2 : Value} {g1 : Option Nat} (hg : g1 = g ∨ ∃ b, g1 = some b ∧ w.heap.size ≤ b) (hF : Fm (fun i => i = A ∨ g = some i) w w1)
    (h2 : WrP base A T (wr || d1) (bs ++ b1) g1 w1 b2 d2 v2 w2) : WrP base A T wr bs g w (b1 ++ b2) (d1 || d2) v2 w2 := by
  obtain ⟨rfl, g2, h3, h4, h5⟩ := h2
  exact ⟨rfl, g2, by rw [← List.append_assoc, ← Bool.or_assoc]; exact h3, grow_trans hF.size hg h4, fm_trans hF hg h5⟩
theorem id43_c {B i tB : Nat} {C : Array Value} {x : Int} (h : WrAt w base A T (.bool wr) bs g) (hB : w.heap[B]? = some (.cells C tB (0, 0))) (hi : C[i]? = some (.int .i64 x)) (hBA : B ≠ A) (hBg : g ≠ some B)
    (hx : IntKind.i64.wrap (IntKind.u64.wrap x) = x) (hlen : bs.length + 31 ≤ 1125899906842000) :
    callV Try.prog 43 [wv A, .pointer (some ⟨B, i, none⟩)] w (WrP base A T wr bs g w (bitsOf (IntKind.u64.wrap x) 31) (!decide ((IntKind.u64.wrap x).fdiv (2 ^ 31) = 0) || !decide (0 < x))) := by
  refine vc43 _ ⟨B, i, none⟩ w _ ?_
  refine (num30_c (k := 31) (by omega) h hB hi hBA hBg hx hlen).mono ?_
  rintro _ w1 ⟨rfl, g1, hw1, hg1, hf1⟩
  have hB1 : w1.drew.heap[B]? = some (.cells C tB (0, 0)) := hf1.keep hB (by rintro (e | e); exact hBA e; exact hBg e)
  have hw1' := hw1.keep (Fm.drew w1) id fun _ _ y => y
  refine ⟨fun w' => w'.heap[B]? = some (.cells C tB (0, 0)), hB1, ?_⟩
  simp only [isB_i, isK_i, isP_i, isTup_i, isInt_i, isSl_i, isPtr_i, isCs_i, isStr_i, isFn_i, isIf_i, rd_i, br_t, br_f, orO_s, orO_n, gd_t, bv_add, bv_sub, bv_mul, bv_eql, bv_neq, bv_lss, bv_leq, bv_gtr, bv_geq, bv_quo, bv_rem, bv_shl, bv_shr, bv_seq, bv_sne, bv_ptr, bv_if, bv_map, bv_nf, bv_bool, bv_sl, bv_fn, uv_not, uv_neg, eqV, nilV, nc_ptr, nc_fn, nc_if, Option.map_some, toN, Nat.mul_one, implies_true, true_and, and_true, and_self]
  refine rd_of (v := .int .i64 x) (cellOf hB1 hi) ⟨fun w' hw => rd_of (cellOf hw hi) rfl, ?_⟩
  simp only [isB_i, isK_i, isP_i, isTup_i, isInt_i, isSl_i, isPtr_i, isCs_i, isStr_i, isFn_i, isIf_i, rd_i, br_t, br_f, orO_s, orO_n, gd_t, bv_add, bv_sub, bv_mul, bv_eql, bv_neq, bv_lss, bv_leq, bv_gtr, bv_geq, bv_quo, bv_rem, bv_shl, bv_shr, bv_seq, bv_sne, bv_ptr, bv_if, bv_map, bv_nf, bv_bool, bv_sl, bv_fn, uv_not, uv_neg, eqV, nilV, nc_ptr, nc_fn, nc_if, Option.map_some, toN, Nat.mul_one, implies_true, true_and, and_true, and_self]
  refine nila_within ⟨fun w' _ => nila_within trivial, meth_within ?_⟩
  refine (within83_c _ hw1').mono ?_
  rintro v w2 h2
  have hf1' : Fm (fun i => i = A ∨ g = some i) w w1.drew := hf1.trans (Fm.drew w1).none
  have hs := WrP.seq (v2 := v) hg1 hf1' h2
  obtain ⟨rfl, g2, hw2, hg2, hf2⟩ := h2
  refine ⟨hf2.keep hB1 (by rintro (e | e); exact hBA e; exact apart_of (lt_of_blk hB) hBg hg1 e), ?_⟩
  rw [List.append_nil] at hs
  exact hs
/-- Three fields with a sign, each at most so far from nought (below nought: any). -/
def vecBits (x : Int) (k : Nat) : List Int := bitsOf (IntKind.u64.wrap x) k
def vecBad (x : Int) (k : Nat) (d : Int) : Bool := !decide ((IntKind.i64.wrap (x * 2 ^ (64 - k))).fdiv (2 ^ (64 - k)) = x) || !(decide (d < 0) || (decide (IntKind.i64.wrap (0 - d) ≤ x) && decide (x ≤ d)))
def vecB (xs : List Int) (k : Nat) : List Int := xs.flatMap fun x => vecBits x k
def vecD (xs : List Int) (k : Nat) (d : Int) : Bool := xs.any fun x => vecBad x k d
set_option maxHeartbeats 1000000 in
set_option maxRecDepth 20000 in
theorem vec42_c {B i tB : Nat} {C : Array Value} {x0 x1 x2 d : Int} {k : Nat} (hk : k ≤ 64) (h : WrAt w base A T (.bool wr) bs g) (hB : w.heap[B]? = some (.cells C tB (0, 0)))
    (h0 : C[i]? = some (.int .i64 x0)) (h1 : C[i + 1]? = some (.int .i64 x1)) (h2 : C[i + 2]? = some (.int .i64 x2)) (hBA : B ≠ A) (hBg : g ≠ some B) (hlen : bs.length + 3 * k ≤ 1125899906842000) :
    callV Try.prog 42 [wv A, .pointer (some ⟨B, i, none⟩), .int .i64 k, .int .i64 d] w (WrP base A T wr bs g w (vecB [x0, x1, x2] k) (vecD [x0, x1, x2] k d)) := by
  have hl := h.lt
  have hBl := lt_of_blk hB
  refine vc42 _ ⟨B, i, none⟩ k d w _ ?_
  have hB0 : w.drew.heap[B]? = some (.cells C tB (0, 0)) := hB
  refine ⟨fun w' => True, trivial, ?_⟩
  simp only [isB_i, isK_i, isP_i, isTup_i, isInt_i, isSl_i, isPtr_i, isCs_i, isStr_i, isFn_i, isIf_i, rd_i, br_t, br_f, orO_s, orO_n, gd_t, bv_add, bv_sub, bv_mul, bv_eql, bv_neq, bv_lss, bv_leq, bv_gtr, bv_geq, bv_quo, bv_rem, bv_shl, bv_shr, bv_seq, bv_sne, bv_ptr, bv_if, bv_map, bv_nf, bv_bool, bv_sl, bv_fn, uv_not, uv_neg, eqV, nilV, nc_ptr, nc_fn, nc_if, Option.map_some, toN, Nat.mul_one, implies_true, true_and, and_true, and_self, addr_add]
  refine build_3 (by rw [row124]) row123 rfl rfl rfl rfl fun w22 hb22 hs22 hf22 => ?_
  simp only [isB_i, isK_i, isP_i, isTup_i, isInt_i, isSl_i, isPtr_i, isCs_i, isStr_i, isFn_i, isIf_i, rd_i, br_t, br_f, orO_s, orO_n, gd_t, bv_add, bv_sub, bv_mul, bv_eql, bv_neq, bv_lss, bv_leq, bv_gtr, bv_geq, bv_quo, bv_rem, bv_shl, bv_shr, bv_seq, bv_sne, bv_ptr, bv_if, bv_map, bv_nf, bv_bool, bv_sl, bv_fn, uv_not, uv_neg, eqV, nilV, nc_ptr, nc_fn, nc_if, Option.map_some, toN, Nat.mul_one, implies_true, true_and, and_true, and_self]
  have hF22 : Fm none' w w22 := (Fm.drew w).trans hf22
  obtain ⟨xs, hxs⟩ : ∃ xs : List Int, xs = [x0, x1, x2] := ⟨_, rfl⟩
  rw [← hxs]
  have hxl : xs.length = 3 := by rw [hxs]; rfl
  have hcell : ∀ j, j < 3 → ∀ x, xs[j]? = some x → C[i + j]? = some (.int .i64 x) := by
    intro j hj x hx
    rw [hxs] at hx
    match j, hj with
    | 0, _ => simp at hx; subst hx; exact h0
    | 1, _ => simp at hx; subst hx; exact h1
    | 2, _ => simp at hx; subst hx; exact h2
  refine ⟨fun u w' => ∃ (j : Nat) (g' : Option Nat), j ≤ 3 ∧ u 21 = .int .i64 j ∧ WrAt w' base A T (.bool (wr || vecD (xs.take j) k d)) (bs ++ vecB (xs.take j) k) g' ∧ (g' = g ∨ ∃ b, g' = some b ∧ w.heap.size ≤ b) ∧ g' ≠ some w.heap.size ∧ Fm (fun i => i = A ∨ g = some i) w w' ∧
    w'.heap[w.heap.size]? = some (.cells #[.pointer (some ⟨B, i, none⟩), .pointer (some ⟨B, i + 1, none⟩), .pointer (some ⟨B, i + 2, none⟩)] 123 (0, 0)), fun u _ => 3 - (intOf (u 21)).toNat, ?_, ?_⟩
  · refine ⟨0, g, by omega, rfl, ?_, .inl rfl, (fun e => by have := hl.2 _ e; omega), hF22.none, hb22⟩
    simp only [List.take_zero, vecD, vecB, List.any_nil, List.flatMap_nil, List.append_nil, Bool.or_false]
    exact h.keep hF22 id fun _ _ y => y
  rintro u w31 ⟨j, g', hj, h21, hw, hg', hgn, hF, hb31⟩
  change u 21 = .int .i64 j at h21
  simp only [h21, isB_i, isK_i, isP_i, isTup_i, isInt_i, isSl_i, isPtr_i, isCs_i, isStr_i, isFn_i, isIf_i, rd_i, br_t, br_f, orO_s, orO_n, gd_t, bv_add, bv_sub, bv_mul, bv_eql, bv_neq, bv_lss, bv_leq, bv_gtr, bv_geq, bv_quo, bv_rem, bv_shl, bv_shr, bv_seq, bv_sne, bv_ptr, bv_if, bv_map, bv_nf, bv_bool, bv_sl, bv_fn, uv_not, uv_neg, eqV, nilV, nc_ptr, nc_fn, nc_if, Option.map_some, toN, Nat.mul_one, implies_true, true_and, and_true, and_self]
  refine br_dec (fun hj3 => ?_) (fun hj3 => ?_)
  · obtain ⟨x, hx⟩ : ∃ x, xs[j]? = some x := ⟨xs[j]'(by omega), by simp⟩
    have hcx := hcell j (by omega) x hx
    have htk : xs.take (j + 1) = xs.take j ++ [x] := by rw [List.take_add_one, hx]; rfl
    have hvl : ∀ l : List Int, (vecB l k).length = l.length * k := by
      intro l
      induction l with
      | nil => simp [vecB]
      | cons y l ih => simp only [vecB, List.flatMap_cons, List.length_append] at ih ⊢; rw [ih]; simp only [vecBits, bitsOf_length, List.length_cons, Nat.succ_mul]; omega
    refine ⟨fun _ w' => ∃ g' : Option Nat, WrAt w' base A T (.bool (wr || vecD (xs.take (j + 1)) k d)) (bs ++ vecB (xs.take (j + 1)) k) g' ∧ (g' = g ∨ ∃ b, g' = some b ∧ w.heap.size ≤ b) ∧ g' ≠ some w.heap.size ∧ Fm (fun i => i = A ∨ g = some i) w w' ∧
      w'.heap[w.heap.size]? = some (.cells #[.pointer (some ⟨B, i, none⟩), .pointer (some ⟨B, i + 1, none⟩), .pointer (some ⟨B, i + 2, none⟩)] 123 (0, 0)), ?_, ?_⟩
    · refine ⟨by omega, ?_⟩
      have hptr : w31.cell? ⟨w.heap.size, j, none⟩ = some (.pointer (some ⟨B, i + j, none⟩)) := by
        match j, (show j < 3 by omega) with
        | 0, _ => exact cellOf hb31 rfl
        | 1, _ => exact cellOf hb31 rfl
        | 2, _ => exact cellOf hb31 rfl
      simp only [addr_add, Nat.zero_add]
      refine rd_of hptr ?_
      simp only [isB_i, isK_i, isP_i, isTup_i, isInt_i, isSl_i, isPtr_i, isCs_i, isStr_i, isFn_i, isIf_i, rd_i, br_t, br_f, orO_s, orO_n, gd_t, bv_add, bv_sub, bv_mul, bv_eql, bv_neq, bv_lss, bv_leq, bv_gtr, bv_geq, bv_quo, bv_rem, bv_shl, bv_shr, bv_seq, bv_sne, bv_ptr, bv_if, bv_map, bv_nf, bv_bool, bv_sl, bv_fn, uv_not, uv_neg, eqV, nilV, nc_ptr, nc_fn, nc_if, Option.map_some, toN, Nat.mul_one, implies_true, true_and, and_true, and_self]
      refine meth_signed ?_
      have hB31 := hF.keep hB (by rintro (e | e); exact hBA e; exact hBg e)
      have hBg' := apart_of hBl hBg hg'
      have hlen' : (bs ++ vecB (xs.take j) k).length + k ≤ 1125899906842000 := by
        rw [List.length_append, hvl, List.length_take]
        have : min j xs.length * k ≤ 2 * k := Nat.mul_le_mul_right _ (by omega)
        omega
      refine (signed81_c (n := x) hk hw (cellOf hB31 hcx) hBA hBg' hlen').mono ?_
      rintro _ w45 ⟨rfl, g1, hw1, hg1, hf1⟩
      have hw1' := hw1.keep (Fm.drew w45) id fun _ _ y => y
      have hB45 : w45.drew.heap[B]? = some (.cells C tB (0, 0)) := hf1.keep hB31 (by rintro (e | e); exact hBA e; exact hBg' e)
      have hg1w := grow_trans hF.size hg' hg1
      have hb45 : w45.drew.heap[w.heap.size]? = _ := hf1.keep hb31 (by rintro (e | e); omega; exact hgn e)
      have hg1n : g1 ≠ some w.heap.size := apart_of (lt_of_blk hb31) hgn hg1
      have hF45 : Fm (fun i => i = A ∨ g = some i) w w45.drew := (fm_trans hF hg' hf1).trans (Fm.drew w45).none
      have fin : ∀ b : Bool, b = (decide (d < 0) || (decide (IntKind.i64.wrap (0 - d) ≤ x) && decide (x ≤ d))) → callV Try.prog 83 [.pointer (some ⟨A, 0, none⟩), .bool b] w45.drew fun v w' => w'.heap[B]? = some (.cells C tB (0, 0)) ∧
          ∃ g' : Option Nat, WrAt w' base A T (.bool (wr || vecD (xs.take (j + 1)) k d)) (bs ++ vecB (xs.take (j + 1)) k) g' ∧ (g' = g ∨ ∃ b, g' = some b ∧ w.heap.size ≤ b) ∧ g' ≠ some w.heap.size ∧ Fm (fun i => i = A ∨ g = some i) w w' ∧
            w'.heap[w.heap.size]? = some (.cells #[.pointer (some ⟨B, i, none⟩), .pointer (some ⟨B, i + 1, none⟩), .pointer (some ⟨B, i + 2, none⟩)] 123 (0, 0)) := by
        intro b hb
        refine (within83_c b hw1').mono ?_
        rintro _ w2 ⟨rfl, g2, hw2, hg2, hf2⟩
        have hBg1 := apart_of hBl hBg hg1w
        refine ⟨hf2.keep hB45 (by rintro (e | e); exact hBA e; exact hBg1 e), g2, ?_, grow_trans hF45.size hg1w hg2, apart_of (lt_of_blk hb45) hg1n hg2, fm_trans hF45 hg1w hf2, hf2.keep hb45 (by rintro (e | e); omega; exact hg1n e)⟩
        rw [List.append_nil, List.append_assoc] at hw2
        rw [htk]
        have e1 : vecB (xs.take j ++ [x]) k = vecB (xs.take j) k ++ bitsOf (IntKind.u64.wrap x) k := by simp [vecB, vecBits]
        have e2 : (wr || vecD (xs.take j ++ [x]) k d) = (((wr || vecD (xs.take j) k d) || !decide ((IntKind.i64.wrap (x * 2 ^ (64 - k))).fdiv (2 ^ (64 - k)) = x)) || !b) := by
          simp only [vecD, List.any_append, List.any_cons, List.any_nil, Bool.or_false, vecBad, hb, Bool.or_assoc]
        rw [e1, e2]
        exact hw2
      refine ⟨fun w' => w'.heap[B]? = some (.cells C tB (0, 0)), hB45, ?_⟩
      refine br_dec (fun hd => ?_) (fun hd => ?_)
      · refine nila_within ⟨fun _ _ => nila_within trivial, meth_within ?_⟩
        exact fin true (by rw [decide_eq_true hd]; rfl)
      · simp only [isB_i, isK_i, isP_i, isTup_i, isInt_i, isSl_i, isPtr_i, isCs_i, isStr_i, isFn_i, isIf_i, rd_i, br_t, br_f, orO_s, orO_n, gd_t, bv_add, bv_sub, bv_mul, bv_eql, bv_neq, bv_lss, bv_leq, bv_gtr, bv_geq, bv_quo, bv_rem, bv_shl, bv_shr, bv_seq, bv_sne, bv_ptr, bv_if, bv_map, bv_nf, bv_bool, bv_sl, bv_fn, uv_not, uv_neg, eqV, nilV, nc_ptr, nc_fn, nc_if, Option.map_some, toN, Nat.mul_one, implies_true, true_and, and_true, and_self]
        refine rd_of (v := .int .i64 x) (cellOf hB45 hcx) ⟨fun w' hw => rd_of (cellOf hw hcx) rfl, ?_⟩
        simp only [isB_i, isK_i, isP_i, isTup_i, isInt_i, isSl_i, isPtr_i, isCs_i, isStr_i, isFn_i, isIf_i, rd_i, br_t, br_f, orO_s, orO_n, gd_t, bv_add, bv_sub, bv_mul, bv_eql, bv_neq, bv_lss, bv_leq, bv_gtr, bv_geq, bv_quo, bv_rem, bv_shl, bv_shr, bv_seq, bv_sne, bv_ptr, bv_if, bv_map, bv_nf, bv_bool, bv_sl, bv_fn, uv_not, uv_neg, eqV, nilV, nc_ptr, nc_fn, nc_if, Option.map_some, toN, Nat.mul_one, implies_true, true_and, and_true, and_self]
        refine br_dec (fun hd1 => ?_) (fun hd1 => ?_)
        · refine rd_of (v := .int .i64 x) (cellOf hB45 hcx) ⟨fun w' hw => rd_of (cellOf hw hcx) rfl, ?_⟩
          simp only [isB_i, isK_i, isP_i, isTup_i, isInt_i, isSl_i, isPtr_i, isCs_i, isStr_i, isFn_i, isIf_i, rd_i, br_t, br_f, orO_s, orO_n, gd_t, bv_add, bv_sub, bv_mul, bv_eql, bv_neq, bv_lss, bv_leq, bv_gtr, bv_geq, bv_quo, bv_rem, bv_shl, bv_shr, bv_seq, bv_sne, bv_ptr, bv_if, bv_map, bv_nf, bv_bool, bv_sl, bv_fn, uv_not, uv_neg, eqV, nilV, nc_ptr, nc_fn, nc_if, Option.map_some, toN, Nat.mul_one, implies_true, true_and, and_true, and_self]
          refine nila_within ⟨fun _ _ => nila_within trivial, meth_within ?_⟩
          exact fin _ (by rw [decide_eq_false hd, decide_eq_true hd1]; simp)
        · refine nila_within ⟨fun _ _ => nila_within trivial, meth_within ?_⟩
          exact fin false (by rw [decide_eq_false hd, decide_eq_false hd1]; rfl)
    · rintro u35 w36 ⟨g2, h3, h4, h5, h6, h7⟩
      rw [w64 (by omega)]
      refine ⟨⟨j + 1, g2, by omega, rfl, h3, h4, h5, h6, h7⟩, ?_⟩
      show 3 - ((j : Int) + 1).toNat < 3 - (j : Int).toNat; omega
  · have : j = 3 := by omega
    subst this
    rw [List.take_of_length_le (by omega)] at hw
    exact ⟨rfl, g', hw, hg', hF⟩
end Go.Proofs.Ytfekkdmnboccfaa
