/- message: a reader's id, vec and command.  Conditions: the reader lies as it is said to lie; the fields are cells of another block. -/
import Derived.Test.YtfekkdmnboccfaaRBy
namespace Go.Proofs.Ytfekkdmnboccfaa
set_option linter.unusedSimpArgs false
set_option linter.unusedVariables false
open Go Go.RowKit VC
variable {w : World} {base A R : Nat} {g : Option Nat} {s : RS}
theorem set_ne {C : Array Value} {i j : Nat} {v : Value} (h : i ≠ j) : (C.setIfInBounds i v)[j]? = C[j]? := by
  rw [Array.getElem?_setIfInBounds]; rw [if_neg h]
theorem set_eq {C : Array Value} {i : Nat} {v : Value} (h : i < C.size) : (C.setIfInBounds i v)[i]? = some v := by
  rw [Array.getElem?_setIfInBounds, if_pos rfl, if_pos h]
theorem set_set {C : Array Value} {i : Nat} {v v' : Value} : (C.setIfInBounds i v).setIfInBounds i v' = C.setIfInBounds i v' := by
  apply Array.ext'; simp
theorem RdAt.drew (h : RdAt w base A R s g) : RdAt w.drew base A R s g := h.keep (Fm.drew w) id id fun _ _ y => y
def rdId (s : RS) : Int × RS := (IntKind.i64.wrap (rdW 31 s).1, rdF (decide (0 < IntKind.i64.wrap (rdW 31 s).1)) (rdW 31 s).2)
theorem rid43_c {B i tB : Nat} {C : Array Value} {x : Int} (h : RdAt w base A R s g) (hB : w.heap[B]? = some (.cells C tB (0, 0))) (hi : C[i]? = some (.int .i64 x)) (hBA : B ≠ A) (hBR : B ≠ R) (hBg : g ≠ some B) :
    callV Try.prog 43 [rv A, .pointer (some ⟨B, i, none⟩)] w (RdP base A R B tB g w (rdId s).2 (C.setIfInBounds i (.int .i64 (rdId s).1))) := by
  refine vc43 _ ⟨B, i, none⟩ w _ ?_
  refine (rnum30_c (k := 31) (by omega) h hB hi hBA hBR hBg).mono ?_
  rintro _ w1 ⟨rfl, h1, hB1, hf1⟩
  have hic := (Array.getElem?_eq_some_iff.1 hi).1
  have hB1' : w1.drew.heap[B]? = _ := hB1
  refine ⟨fun w' => w'.heap[B]? = some (.cells (C.setIfInBounds i (.int .i64 (IntKind.i64.wrap (rdW 31 s).1))) tB (0, 0)), hB1', ?_⟩
  simp only [isB_i, isK_i, isP_i, isTup_i, isInt_i, isSl_i, isPtr_i, isCs_i, isStr_i, isFn_i, isIf_i, rd_i, br_t, br_f, orO_s, orO_n, gd_t, bv_add, bv_sub, bv_mul, bv_eql, bv_neq, bv_lss, bv_leq, bv_gtr, bv_geq, bv_quo, bv_rem, bv_shl, bv_shr, bv_seq, bv_sne, bv_ptr, bv_if, bv_map, bv_nf, bv_bool, bv_sl, bv_fn, uv_not, uv_neg, eqV, nilV, nc_ptr, nc_fn, nc_if, Option.map_some, toN, Nat.mul_one, implies_true, true_and, and_true, and_self]
  refine rd_of (v := .int .i64 (IntKind.i64.wrap (rdW 31 s).1)) (cellOf hB1' (set_eq hic)) ⟨fun w' hw => rd_of (cellOf hw (set_eq hic)) rfl, ?_⟩
  simp only [isB_i, isK_i, isP_i, isTup_i, isInt_i, isSl_i, isPtr_i, isCs_i, isStr_i, isFn_i, isIf_i, rd_i, br_t, br_f, orO_s, orO_n, gd_t, bv_add, bv_sub, bv_mul, bv_eql, bv_neq, bv_lss, bv_leq, bv_gtr, bv_geq, bv_quo, bv_rem, bv_shl, bv_shr, bv_seq, bv_sne, bv_ptr, bv_if, bv_map, bv_nf, bv_bool, bv_sl, bv_fn, uv_not, uv_neg, eqV, nilV, nc_ptr, nc_fn, nc_if, Option.map_some, toN, Nat.mul_one, implies_true, true_and, and_true, and_self]
  refine rnila_within ⟨fun w' _ => rnila_within trivial, rmeth_within ?_⟩
  refine (within31_c _ h1.drew).mono ?_
  rintro v w2 ⟨rfl, h2, hf2⟩
  exact ⟨hf2.keep hB1' hBA, rfl, h2, hf2.keep hB1' hBA, (hf1.trans (Fm.drew w1).none).trans (hf2.mono fun i _ e => .inl e)⟩
def stepV (k : Nat) (d : Int) (s : RS) : Int × RS := ((rdS k s).1, rdF (decide (d < 0) || (decide (IntKind.i64.wrap (0 - d) ≤ (rdS k s).1) && decide ((rdS k s).1 ≤ d))) (rdS k s).2)
def vst (k : Nat) (d : Int) (s : RS) (C : Array Value) (i : Nat) : Nat → RS × Array Value
  | 0 => (s, C)
  | j + 1 => ((stepV k d (vst k d s C i j).1).2, (vst k d s C i j).2.setIfInBounds (i + j) (.int .i64 (stepV k d (vst k d s C i j).1).1))
theorem vst_get (k : Nat) (d : Int) (s : RS) (C : Array Value) (i : Nat) : ∀ j m, j ≤ m → (vst k d s C i j).2[i + m]? = C[i + m]? := by
  intro j
  induction j with
  | zero => intro m _; rfl
  | succ j ih => intro m hm; show ((vst k d s C i j).2.setIfInBounds (i + j) _)[i + m]? = _; rw [set_ne (by omega), ih m (by omega)]
set_option maxHeartbeats 1000000 in
set_option maxRecDepth 20000 in
theorem rvec42_c {B i tB : Nat} {C : Array Value} {x0 x1 x2 d : Int} {k : Nat} (hk : k ≤ 64) (h : RdAt w base A R s g) (hB : w.heap[B]? = some (.cells C tB (0, 0)))
    (h0 : C[i]? = some (.int .i64 x0)) (h1 : C[i + 1]? = some (.int .i64 x1)) (h2 : C[i + 2]? = some (.int .i64 x2)) (hBA : B ≠ A) (hBR : B ≠ R) (hBg : g ≠ some B) :
    callV Try.prog 42 [rv A, .pointer (some ⟨B, i, none⟩), .int .i64 k, .int .i64 d] w (RdP base A R B tB g w (vst k d s C i 3).1 (vst k d s C i 3).2) := by
  have hl := h.lt
  have hBl := lt_of_blk hB
  refine vc42 _ ⟨B, i, none⟩ k d w _ ?_
  have hB0 : w.drew.heap[B]? = some (.cells C tB (0, 0)) := hB
  refine ⟨fun w' => True, trivial, ?_⟩
  simp only [isB_i, isK_i, isP_i, isTup_i, isInt_i, isSl_i, isPtr_i, isCs_i, isStr_i, isFn_i, isIf_i, rd_i, br_t, br_f, orO_s, orO_n, gd_t, bv_add, bv_sub, bv_mul, bv_eql, bv_neq, bv_lss, bv_leq, bv_gtr, bv_geq, bv_quo, bv_rem, bv_shl, bv_shr, bv_seq, bv_sne, bv_ptr, bv_if, bv_map, bv_nf, bv_bool, bv_sl, bv_fn, uv_not, uv_neg, eqV, nilV, nc_ptr, nc_fn, nc_if, Option.map_some, toN, Nat.mul_one, implies_true, true_and, and_true, and_self, addr_add]
  refine build_3 (by rw [row124]) row123 rfl rfl rfl rfl fun w22 hb22 hs22 hf22 => ?_
  simp only [isB_i, isK_i, isP_i, isTup_i, isInt_i, isSl_i, isPtr_i, isCs_i, isStr_i, isFn_i, isIf_i, rd_i, br_t, br_f, orO_s, orO_n, gd_t, bv_add, bv_sub, bv_mul, bv_eql, bv_neq, bv_lss, bv_leq, bv_gtr, bv_geq, bv_quo, bv_rem, bv_shl, bv_shr, bv_seq, bv_sne, bv_ptr, bv_if, bv_map, bv_nf, bv_bool, bv_sl, bv_fn, uv_not, uv_neg, eqV, nilV, nc_ptr, nc_fn, nc_if, Option.map_some, toN, Nat.mul_one, implies_true, true_and, and_true, and_self]
  have hF22 : Fm none' w w22 := (Fm.drew w).trans hf22
  have hcell : ∀ j, j < 3 → ∃ x, C[i + j]? = some (.int .i64 x) := by
    intro j hj
    match j, hj with
    | 0, _ => exact ⟨_, h0⟩
    | 1, _ => exact ⟨_, h1⟩
    | 2, _ => exact ⟨_, h2⟩
  refine ⟨fun u w' => ∃ j : Nat, j ≤ 3 ∧ u 21 = .int .i64 j ∧ RdAt w' base A R (vst k d s C i j).1 g ∧ w'.heap[B]? = some (.cells (vst k d s C i j).2 tB (0, 0)) ∧ Fm (fun i => i = A ∨ i = R ∨ i = B) w w' ∧
    w'.heap[w.heap.size]? = some (.cells #[.pointer (some ⟨B, i, none⟩), .pointer (some ⟨B, i + 1, none⟩), .pointer (some ⟨B, i + 2, none⟩)] 123 (0, 0)), fun u _ => 3 - (intOf (u 21)).toNat, ?_, ?_⟩
  · exact ⟨0, by omega, rfl, h.keep hF22 id id fun _ _ y => y, hF22.keep hB id, hF22.none, hb22⟩
  rintro u w31 ⟨j, hj, h21, hr, hB31, hF, hb31⟩
  change u 21 = .int .i64 j at h21
  simp only [h21, isB_i, isK_i, isP_i, isTup_i, isInt_i, isSl_i, isPtr_i, isCs_i, isStr_i, isFn_i, isIf_i, rd_i, br_t, br_f, orO_s, orO_n, gd_t, bv_add, bv_sub, bv_mul, bv_eql, bv_neq, bv_lss, bv_leq, bv_gtr, bv_geq, bv_quo, bv_rem, bv_shl, bv_shr, bv_seq, bv_sne, bv_ptr, bv_if, bv_map, bv_nf, bv_bool, bv_sl, bv_fn, uv_not, uv_neg, eqV, nilV, nc_ptr, nc_fn, nc_if, Option.map_some, toN, Nat.mul_one, implies_true, true_and, and_true, and_self]
  refine br_dec (fun hj3 => ?_) (fun hj3 => ?_)
  · obtain ⟨x, hx⟩ := hcell j (by omega)
    have hCj : (vst k d s C i j).2[i + j]? = some (.int .i64 x) := by rw [vst_get k d s C i j j (Nat.le_refl _), hx]
    have hic := (Array.getElem?_eq_some_iff.1 hCj).1
    refine ⟨fun _ w' => RdAt w' base A R (vst k d s C i (j + 1)).1 g ∧ w'.heap[B]? = some (.cells (vst k d s C i (j + 1)).2 tB (0, 0)) ∧ Fm (fun i => i = A ∨ i = R ∨ i = B) w w' ∧
      w'.heap[w.heap.size]? = some (.cells #[.pointer (some ⟨B, i, none⟩), .pointer (some ⟨B, i + 1, none⟩), .pointer (some ⟨B, i + 2, none⟩)] 123 (0, 0)), ?_, ?_⟩
    · refine ⟨by omega, ?_⟩
      have hptr : w31.cell? ⟨w.heap.size, j, none⟩ = some (.pointer (some ⟨B, i + j, none⟩)) := by
        match j, (show j < 3 by omega) with
        | 0, _ => exact cellOf hb31 rfl
        | 1, _ => exact cellOf hb31 rfl
        | 2, _ => exact cellOf hb31 rfl
      simp only [addr_add, Nat.zero_add]
      refine rd_of hptr ?_
      simp only [isB_i, isK_i, isP_i, isTup_i, isInt_i, isSl_i, isPtr_i, isCs_i, isStr_i, isFn_i, isIf_i, rd_i, br_t, br_f, orO_s, orO_n, gd_t, bv_add, bv_sub, bv_mul, bv_eql, bv_neq, bv_lss, bv_leq, bv_gtr, bv_geq, bv_quo, bv_rem, bv_shl, bv_shr, bv_seq, bv_sne, bv_ptr, bv_if, bv_map, bv_nf, bv_bool, bv_sl, bv_fn, uv_not, uv_neg, eqV, nilV, nc_ptr, nc_fn, nc_if, Option.map_some, toN, Nat.mul_one, implies_true, true_and, and_true, and_self]
      refine rmeth_signed ?_
      refine (signed86_c hk hr hB31 hic hBA hBR hBg).mono ?_
      rintro _ w45 ⟨rfl, h45, hB45, hf45⟩
      obtain ⟨y, hy⟩ : ∃ y, (rdS k (vst k d s C i j).1).1 = y := ⟨_, rfl⟩
      have hB45' : w45.drew.heap[B]? = some (.cells ((vst k d s C i j).2.setIfInBounds (i + j) (.int .i64 y)) tB (0, 0)) := by rw [← hy]; exact hB45
      have hF45 : Fm (fun i => i = A ∨ i = R ∨ i = B) w w45.drew := (hF.trans hf45).trans (Fm.drew w45).none
      have hb45 : w45.drew.heap[w.heap.size]? = _ := hf45.keep hb31 (by rintro (e | e | e) <;> omega)
      have fin : ∀ b : Bool, b = (decide (d < 0) || (decide (IntKind.i64.wrap (0 - d) ≤ y) && decide (y ≤ d))) → callV Try.prog 31 [.pointer (some ⟨A, 0, none⟩), .bool b] w45.drew fun v w' => w'.heap[B]? = some (.cells ((vst k d s C i j).2.setIfInBounds (i + j) (.int .i64 y)) tB (0, 0)) ∧
          RdAt w' base A R (vst k d s C i (j + 1)).1 g ∧ w'.heap[B]? = some (.cells (vst k d s C i (j + 1)).2 tB (0, 0)) ∧ Fm (fun i => i = A ∨ i = R ∨ i = B) w w' ∧
            w'.heap[w.heap.size]? = some (.cells #[.pointer (some ⟨B, i, none⟩), .pointer (some ⟨B, i + 1, none⟩), .pointer (some ⟨B, i + 2, none⟩)] 123 (0, 0)) := by
        intro b hb
        refine (within31_c b h45.drew).mono ?_
        rintro _ w2 ⟨rfl, h2, hf2⟩
        refine ⟨hf2.keep hB45' hBA, ?_, ?_, hF45.trans (hf2.mono fun i _ e => .inl e), hf2.keep hb45 (by omega)⟩
        · rw [hb, ← hy] at h2; exact h2
        · rw [← hy] at hB45'; exact hf2.keep hB45' hBA
      have hget := set_eq (v := .int .i64 y) hic
      refine ⟨fun w' => w'.heap[B]? = some (.cells ((vst k d s C i j).2.setIfInBounds (i + j) (.int .i64 y)) tB (0, 0)), hB45', ?_⟩
      refine br_dec (fun hd => ?_) (fun hd => ?_)
      · refine rnila_within ⟨fun _ _ => rnila_within trivial, rmeth_within ?_⟩
        exact fin true (by rw [decide_eq_true hd]; rfl)
      · simp only [isB_i, isK_i, isP_i, isTup_i, isInt_i, isSl_i, isPtr_i, isCs_i, isStr_i, isFn_i, isIf_i, rd_i, br_t, br_f, orO_s, orO_n, gd_t, bv_add, bv_sub, bv_mul, bv_eql, bv_neq, bv_lss, bv_leq, bv_gtr, bv_geq, bv_quo, bv_rem, bv_shl, bv_shr, bv_seq, bv_sne, bv_ptr, bv_if, bv_map, bv_nf, bv_bool, bv_sl, bv_fn, uv_not, uv_neg, eqV, nilV, nc_ptr, nc_fn, nc_if, Option.map_some, toN, Nat.mul_one, implies_true, true_and, and_true, and_self]
        refine rd_of (v := .int .i64 y) (cellOf hB45' hget) ⟨fun w' hw => rd_of (cellOf hw hget) rfl, ?_⟩
        simp only [isB_i, isK_i, isP_i, isTup_i, isInt_i, isSl_i, isPtr_i, isCs_i, isStr_i, isFn_i, isIf_i, rd_i, br_t, br_f, orO_s, orO_n, gd_t, bv_add, bv_sub, bv_mul, bv_eql, bv_neq, bv_lss, bv_leq, bv_gtr, bv_geq, bv_quo, bv_rem, bv_shl, bv_shr, bv_seq, bv_sne, bv_ptr, bv_if, bv_map, bv_nf, bv_bool, bv_sl, bv_fn, uv_not, uv_neg, eqV, nilV, nc_ptr, nc_fn, nc_if, Option.map_some, toN, Nat.mul_one, implies_true, true_and, and_true, and_self]
        refine br_dec (fun hd1 => ?_) (fun hd1 => ?_)
        · refine rd_of (v := .int .i64 y) (cellOf hB45' hget) ⟨fun w' hw => rd_of (cellOf hw hget) rfl, ?_⟩
          simp only [isB_i, isK_i, isP_i, isTup_i, isInt_i, isSl_i, isPtr_i, isCs_i, isStr_i, isFn_i, isIf_i, rd_i, br_t, br_f, orO_s, orO_n, gd_t, bv_add, bv_sub, bv_mul, bv_eql, bv_neq, bv_lss, bv_leq, bv_gtr, bv_geq, bv_quo, bv_rem, bv_shl, bv_shr, bv_seq, bv_sne, bv_ptr, bv_if, bv_map, bv_nf, bv_bool, bv_sl, bv_fn, uv_not, uv_neg, eqV, nilV, nc_ptr, nc_fn, nc_if, Option.map_some, toN, Nat.mul_one, implies_true, true_and, and_true, and_self]
          refine rnila_within ⟨fun _ _ => rnila_within trivial, rmeth_within ?_⟩
          exact fin _ (by rw [decide_eq_false hd, decide_eq_true hd1]; simp)
        · refine rnila_within ⟨fun _ _ => rnila_within trivial, rmeth_within ?_⟩
          exact fin false (by rw [decide_eq_false hd, decide_eq_false hd1]; rfl)
    · rintro u35 w36 ⟨h3, h4, h5, h6⟩
      rw [w64 (by omega)]
      refine ⟨⟨j + 1, by omega, rfl, h3, h4, h5, h6⟩, ?_⟩
      show 3 - ((j : Int) + 1).toNat < 3 - (j : Int).toNat; omega
  · have : j = 3 := by omega
    subst this
    exact ⟨rfl, hr, hB31, hF⟩
end Go.Proofs.Ytfekkdmnboccfaa
