/- What New, Push, Len, At of a ring do, of strings and of numbers.  Conditions: it lies as it is said to lie. -/
import Derived.Test.YtlhgibiffekpfaaC0
import Derived.Test.YtlhgibiffekpfaaLib
namespace Go.Proofs.Ytlhgibiffekpfaa
set_option linter.unusedSimpArgs false
set_option linter.unusedVariables false
open Go Go.RowKit VC

/-- A row turned so that its place f comes first. -/
def rot {α : Type} (raw : List α) (f : Nat) : List α := raw.drop f ++ raw.take f
theorem rot_length {α : Type} (raw : List α) (f : Nat) : (rot raw f).length = raw.length := by simp [rot]; omega
theorem rot_zero {α : Type} (raw : List α) : rot raw 0 = raw := by simp [rot]
theorem rot_at {α : Type} (raw : List α) (f i : Nat) (hf : f < raw.length) (hi : i < raw.length) : raw[(f + i) % raw.length]? = (rot raw f)[i]? := by
  unfold rot
  by_cases h : f + i < raw.length
  · rw [Nat.mod_eq_of_lt h, List.getElem?_append_left (by simp; omega), List.getElem?_drop]
  · rw [show (f + i) % raw.length = f + i - raw.length by rw [Nat.mod_eq_sub_mod (by omega), Nat.mod_eq_of_lt (by omega)]]
    rw [List.getElem?_append_right (by simp; omega), List.getElem?_take]
    rw [if_pos (by simp; omega)]
    congr 1
    simp; omega
theorem rot_push {α : Type} (raw : List α) (f : Nat) (x : α) (hf : f < raw.length) : rot (raw.set f x) ((f + 1) % raw.length) = (rot raw f).tail ++ [x] := by
  have h1 : (raw.set f x) = raw.take f ++ x :: raw.drop (f + 1) := List.set_eq_take_append_cons_drop.trans (by rw [if_pos hf])
  have h2 : raw.drop f = raw[f] :: raw.drop (f + 1) := List.drop_eq_getElem_cons hf
  by_cases h : f + 1 < raw.length
  · rw [Nat.mod_eq_of_lt h]
    unfold rot
    rw [h2, h1]
    have ht : (raw.take f).length = f := by simp; omega
    rw [List.drop_append, List.take_append, ht]
    simp only [List.drop_eq_nil_of_le (show (raw.take f).length ≤ f + 1 by omega), List.take_of_length_le (show (raw.take f).length ≤ f + 1 by omega), show f + 1 - f = 1 by omega, List.drop_succ_cons, List.drop_zero, List.take_succ_cons, List.take_zero, List.nil_append, List.cons_append, List.tail_cons, List.append_assoc]
  · have he : f + 1 = raw.length := by omega
    rw [he, Nat.mod_self, rot_zero]
    unfold rot
    rw [h2, h1, List.drop_eq_nil_of_le (by omega)]
    simp
theorem rot_head {α : Type} (raw : List α) (f : Nat) (z : α) (hf : f < raw.length) : raw[f]? = some ((rot raw f).headD z) := by
  have h2 : raw.drop f = raw[f] :: raw.drop (f + 1) := List.drop_eq_getElem_cons hf
  unfold rot
  rw [h2, List.getElem?_eq_getElem hf]
  rfl
/-- A ring of package ring lies at R: at most so many, and these, the oldest first. -/
def RingAt {α : Type} (enc : α → Value) (T e : TypeId) (w : World) (base R : Nat) (most : Int) (buf : List α) : Prop :=
  ∃ s, ∃ raw : List α, ∃ f, w.heap[R]? = some (.cells #[.int .i64 most, .int .i64 (f : Nat), s] T (0, 0)) ∧ w.ownsRow base e 1 s raw.length (raw.map enc) ∧ (raw.length : Int) ≤ most ∧ ((raw.length : Int) < most → f = 0) ∧ (f < raw.length ∨ f = 0) ∧ buf = rot raw f
theorem RingAt.keep {α : Type} {enc : α → Value} {T e : TypeId} {w w' : World} {base R : Nat} {most : Int} {buf : List α} {S : Nat → Prop} (h : RingAt enc T e w base R most buf) (g : Fm S w w') (hR : ¬ S R) (hr : ∀ i, rowsOf e w base i → ¬ S i) : RingAt enc T e w' base R most buf := by
  obtain ⟨s, raw, f, h1, h2, h3⟩ := h
  exact ⟨s, raw, f, g.keep h1 hR, g.owns h2 (fun i hi => hr i (own_block h2 hi)), h3⟩
theorem RingAt.lt {α : Type} {enc : α → Value} {T e : TypeId} {w : World} {base R : Nat} {most : Int} {buf : List α} (h : RingAt enc T e w base R most buf) : R < w.heap.size := by
  obtain ⟨s, raw, f, h1, _⟩ := h
  exact lt_of_blk h1

theorem new12_c (a : Int) (w : World) (base : Nat) : callV Try.prog 12 [.int .i64 a] w fun v w' => ∃ R, v = .pointer (some ⟨R, 0, none⟩) ∧ w.heap.size ≤ R ∧ RingAt Value.string 82 9 w' base R (max a 1) [] ∧ Fm none' w w' := by
  refine vc12 a w _ (allocC_of fun w' hb hs hf => ?_)
  exact ⟨_, rfl, Nat.le_refl _, ⟨_, [], 0, hb, World.ownsRow_nil w' base 9 1, by simp; omega, fun _ => rfl, .inr rfl, rfl⟩, hf⟩
theorem len14_c {w : World} {base R : Nat} {most : Int} {buf : List ByteArray} (h : RingAt Value.string 82 9 w base R most buf) : callV Try.prog 14 [.pointer (some ⟨R, 0, none⟩)] w fun v w' => v = .int .i64 buf.length ∧ w' = w := by
  obtain ⟨s, raw, f, h1, h2, h3, h4, h5, rfl⟩ := h
  obtain ⟨p, c, rfl, -⟩ := own_read h2
  refine vc14 ⟨R, 0, none⟩ w _ ?_
  simp only [addr_add, Nat.zero_add]
  refine rd_of (v := .slice p raw.length c) (cellOf h1 rfl) ?_
  exact ⟨by rw [rot_length], trivial⟩
theorem at15_c {w : World} {base R : Nat} {most : Int} {buf : List ByteArray} (i : Int) (h : RingAt Value.string 82 9 w base R most buf) (hn : buf.length ≤ 4096) :
    callV Try.prog 15 [.pointer (some ⟨R, 0, none⟩), .int .i64 i] w fun v w' => v = (if 0 ≤ i ∧ i < buf.length then .tuple #[Value.string (buf.getD i.toNat ⟨#[]⟩), .bool true] else .tuple #[Value.string ⟨#[]⟩, .bool false]) ∧ Fm none' w w' := by
  obtain ⟨s, raw, f, h1, h2, h3, h4, h5, rfl⟩ := h
  obtain ⟨p, c, rfl, hc⟩ := own_read h2
  rw [rot_length] at hn ⊢
  refine vc15 ⟨R, 0, none⟩ i w _ ?_
  simp only [addr_add, Nat.zero_add]
  refine br_dec (fun hi => ?_) (fun hi => ?_)
  · rw [if_neg (by omega)]; exact ⟨rfl, Fm.refl _ _⟩
  refine rd_of (v := .slice p raw.length c) (cellOf h1 rfl) ?_
  simp only [isB_i, isK_i, isP_i, isTup_i, isInt_i, isSl_i, isPtr_i, isCs_i, isStr_i, isFn_i, isIf_i, rd_i, br_t, br_f, orO_s, orO_n, gd_t, bv_add, bv_sub, bv_mul, bv_eql, bv_neq, bv_lss, bv_leq, bv_gtr, bv_geq, bv_quo, bv_rem, bv_shl, bv_shr, bv_seq, bv_sne, bv_ptr, bv_if, bv_map, bv_nf, bv_bool, bv_sl, bv_fn, uv_not, uv_neg, eqV, nilV, nc_ptr, nc_fn, nc_if, Option.map_some, toN, Nat.mul_one, implies_true, true_and, and_true, and_self]
  refine br_dec (fun hi2 => ?_) (fun hi2 => ?_)
  · rw [if_neg (by omega)]; exact ⟨rfl, Fm.refl _ _⟩
  rw [if_pos (by omega)]
  obtain ⟨i, rfl⟩ : ∃ j : Nat, i = j := ⟨i.toNat, by omega⟩
  have h1' : w.drew.heap[R]? = _ := h1
  refine rd_of (v := .slice p raw.length c) (cellOf h1' rfl) ?_
  refine rd_of (v := .int .i64 (f : Nat)) (cellOf h1' rfl) ?_
  simp only [isB_i, isK_i, isP_i, isTup_i, isInt_i, isSl_i, isPtr_i, isCs_i, isStr_i, isFn_i, isIf_i, rd_i, br_t, br_f, orO_s, orO_n, gd_t, bv_add, bv_sub, bv_mul, bv_eql, bv_neq, bv_lss, bv_leq, bv_gtr, bv_geq, bv_quo, bv_rem, bv_shl, bv_shr, bv_seq, bv_sne, bv_ptr, bv_if, bv_map, bv_nf, bv_bool, bv_sl, bv_fn, uv_not, uv_neg, eqV, nilV, nc_ptr, nc_fn, nc_if, Option.map_some, toN, Nat.mul_one, implies_true, true_and, and_true, and_self]
  refine rd_of (v := .slice p raw.length c) (cellOf h1' rfl) ?_
  simp only [isB_i, isK_i, isP_i, isTup_i, isInt_i, isSl_i, isPtr_i, isCs_i, isStr_i, isFn_i, isIf_i, rd_i, br_t, br_f, orO_s, orO_n, gd_t, bv_add, bv_sub, bv_mul, bv_eql, bv_neq, bv_lss, bv_leq, bv_gtr, bv_geq, bv_quo, bv_rem, bv_shl, bv_shr, bv_seq, bv_sne, bv_ptr, bv_if, bv_map, bv_nf, bv_bool, bv_sl, bv_fn, uv_not, uv_neg, eqV, nilV, nc_ptr, nc_fn, nc_if, Option.map_some, toN, Nat.mul_one, implies_true, true_and, and_true, and_self]
  rw [w64 (by omega), dv_ne _ (by omega)]
  have hm : Int.tmod ((f : Int) + (i : Int)) (raw.length : Int) = (((f + i) % raw.length : Nat) : Int) := by
    rw [Int.tmod_eq_emod_of_nonneg (by omega), Int.natCast_emod]; rfl
  rw [hm]
  have hlt : (f + i) % raw.length < raw.length := Nat.mod_lt _ (by omega)
  have hra := rot_at raw f i (by omega) (by omega)
  have hx : raw[(f + i) % raw.length]? = some ((rot raw f).getD i ⟨#[]⟩) := by
    rw [hra, List.getD_eq_getElem?_getD, List.getElem?_eq_getElem (by rw [rot_length]; omega)]; rfl
  obtain ⟨g, rfl, -, -, hcell⟩ := hc _ _ (show (raw.map Value.string)[(f + i) % raw.length]? = some (Value.string _) by rw [List.getElem?_map, hx]; rfl)
  simp only [isB_i, isK_i, isP_i, isTup_i, isInt_i, isSl_i, isPtr_i, isCs_i, isStr_i, isFn_i, isIf_i, rd_i, br_t, br_f, orO_s, orO_n, gd_t, bv_add, bv_sub, bv_mul, bv_eql, bv_neq, bv_lss, bv_leq, bv_gtr, bv_geq, bv_quo, bv_rem, bv_shl, bv_shr, bv_seq, bv_sne, bv_ptr, bv_if, bv_map, bv_nf, bv_bool, bv_sl, bv_fn, uv_not, uv_neg, eqV, nilV, nc_ptr, nc_fn, nc_if, Option.map_some, toN, Nat.mul_one, implies_true, true_and, and_true, and_self]
  refine ⟨by omega, rd_of ((Fm.drew w).cell hcell id) ?_⟩
  simp only [isB_i, isK_i, isP_i, isTup_i, isInt_i, isSl_i, isPtr_i, isCs_i, isStr_i, isFn_i, isIf_i, rd_i, br_t, br_f, orO_s, orO_n, gd_t, bv_add, bv_sub, bv_mul, bv_eql, bv_neq, bv_lss, bv_leq, bv_gtr, bv_geq, bv_quo, bv_rem, bv_shl, bv_shr, bv_seq, bv_sne, bv_ptr, bv_if, bv_map, bv_nf, bv_bool, bv_sl, bv_fn, uv_not, uv_neg, eqV, nilV, nc_ptr, nc_fn, nc_if, Option.map_some, toN, Nat.mul_one, implies_true, true_and, and_true, and_self]
  exact Fm.drew w
set_option maxRecDepth 8000 in
theorem push13_c {w : World} {base R : Nat} {most : Int} {buf : List ByteArray} (x : ByteArray) (h : RingAt Value.string 82 9 w base R most buf) (hn : buf.length ≤ 4096) (hb : base ≤ w.heap.size) (h1m : 1 ≤ most) :
    callV Try.prog 13 [.pointer (some ⟨R, 0, none⟩), .string x] w fun v w' => v = (if (buf.length : Int) < most then .tuple #[Value.string ⟨#[]⟩, .bool false] else .tuple #[Value.string (buf.headD ⟨#[]⟩), .bool true]) ∧
      RingAt Value.string 82 9 w' base R most (if (buf.length : Int) < most then buf ++ [x] else buf.tail ++ [x]) ∧ Fm (fun i => i = R ∨ rowsOf 9 w base i) w w' := by
  obtain ⟨s, raw, f, h1, h2, h3, h4, h5, rfl⟩ := h
  obtain ⟨p, c, rfl, hc⟩ := own_read h2
  rw [rot_length] at hn ⊢
  refine vc13 ⟨R, 0, none⟩ x w _ ?_
  have h1' : w.drew.heap[R]? = some (.cells #[.int .i64 most, .int .i64 (f : Nat), .slice p raw.length c] 82 (0, 0)) := h1
  have hne : ∀ i, Value.ownBlock (.slice p raw.length c) = some i → i ≠ R := by
    rintro i hi rfl
    obtain ⟨_, cur, hcur⟩ := own_block h2 hi
    rw [h1] at hcur; cases hcur
  simp only [addr_add, Nat.zero_add, isB_i, isK_i, isP_i, isTup_i, isInt_i, isSl_i, isPtr_i, isCs_i, isStr_i, isFn_i, isIf_i, rd_i, br_t, br_f, orO_s, orO_n, gd_t, bv_add, bv_sub, bv_mul, bv_eql, bv_neq, bv_lss, bv_leq, bv_gtr, bv_geq, bv_quo, bv_rem, bv_shl, bv_shr, bv_seq, bv_sne, bv_ptr, bv_if, bv_map, bv_nf, bv_bool, bv_sl, bv_fn, uv_not, uv_neg, eqV, nilV, nc_ptr, nc_fn, nc_if, Option.map_some, toN, Nat.mul_one, implies_true, true_and, and_true, and_self]
  refine rd_of (v := .slice p raw.length c) (cellOf h1' rfl) ?_
  simp only [isB_i, isK_i, isP_i, isTup_i, isInt_i, isSl_i, isPtr_i, isCs_i, isStr_i, isFn_i, isIf_i, rd_i, br_t, br_f, orO_s, orO_n, gd_t, bv_add, bv_sub, bv_mul, bv_eql, bv_neq, bv_lss, bv_leq, bv_gtr, bv_geq, bv_quo, bv_rem, bv_shl, bv_shr, bv_seq, bv_sne, bv_ptr, bv_if, bv_map, bv_nf, bv_bool, bv_sl, bv_fn, uv_not, uv_neg, eqV, nilV, nc_ptr, nc_fn, nc_if, Option.map_some, toN, Nat.mul_one, implies_true, true_and, and_true, and_self]
  refine rd_of (v := .int .i64 most) (cellOf h1' rfl) ?_
  simp only [isB_i, isK_i, isP_i, isTup_i, isInt_i, isSl_i, isPtr_i, isCs_i, isStr_i, isFn_i, isIf_i, rd_i, br_t, br_f, orO_s, orO_n, gd_t, bv_add, bv_sub, bv_mul, bv_eql, bv_neq, bv_lss, bv_leq, bv_gtr, bv_geq, bv_quo, bv_rem, bv_shl, bv_shr, bv_seq, bv_sne, bv_ptr, bv_if, bv_map, bv_nf, bv_bool, bv_sl, bv_fn, uv_not, uv_neg, eqV, nilV, nc_ptr, nc_fn, nc_if, Option.map_some, toN, Nat.mul_one, implies_true, true_and, and_true, and_self]
  refine br_dec (fun hr => ?_) (fun hr => ?_)
  · obtain rfl := h4 hr
    rw [if_pos hr, if_pos hr, rot_zero]
    refine rd_of (v := .slice p raw.length c) (cellOf h1' rfl) ?_
    simp only [isB_i, isK_i, isP_i, isTup_i, isInt_i, isSl_i, isPtr_i, isCs_i, isStr_i, isFn_i, isIf_i, rd_i, br_t, br_f, orO_s, orO_n, gd_t, bv_add, bv_sub, bv_mul, bv_eql, bv_neq, bv_lss, bv_leq, bv_gtr, bv_geq, bv_quo, bv_rem, bv_shl, bv_shr, bv_seq, bv_sne, bv_ptr, bv_if, bv_map, bv_nf, bv_bool, bv_sl, bv_fn, uv_not, uv_neg, eqV, nilV, nc_ptr, nc_fn, nc_if, Option.map_some, toN, Nat.mul_one, implies_true, true_and, and_true, and_self]
    refine append_1 (by rw [row22]) row9 rfl rfl h2.drew hb (by unfold maxLen; omega) (by omega) ?_
    intro v' w' ho2 hf
    obtain ⟨p2, c2, rfl, -⟩ := own_read ho2
    simp only [isB_i, isK_i, isP_i, isTup_i, isInt_i, isSl_i, isPtr_i, isCs_i, isStr_i, isFn_i, isIf_i, rd_i, br_t, br_f, orO_s, orO_n, gd_t, bv_add, bv_sub, bv_mul, bv_eql, bv_neq, bv_lss, bv_leq, bv_gtr, bv_geq, bv_quo, bv_rem, bv_shl, bv_shr, bv_seq, bv_sne, bv_ptr, bv_if, bv_map, bv_nf, bv_bool, bv_sl, bv_fn, uv_not, uv_neg, eqV, nilV, nc_ptr, nc_fn, nc_if, Option.map_some, toN, Nat.mul_one, implies_true, true_and, and_true, and_self]
    refine stC_one (hf.keep h1' fun e => hne _ e rfl) (by simp) rfl fun w2 hw2 hf2 => ?_
    refine ⟨⟨_, raw ++ [x], 0, hw2, ?_, by simp; omega, fun _ => rfl, .inr rfl, (rot_zero _).symm⟩, ?_⟩
    · rw [List.length_append, List.map_append]
      refine hf2.owns ho2 fun i hi e => ?_
      subst e
      obtain ⟨_, cur, hc⟩ := own_block ho2 hi
      rw [hf.keep h1' fun e => hne _ e rfl] at hc
      cases hc
    · exact (Fm.drew w).none.trans ((hf.mono fun i _ h => .inr (own_block h2 h)).trans (hf2.mono fun i _ h => .inl h))
  · have hfl : f < raw.length := by omega
    have hlen : (raw.length : Int) = most := by omega
    rw [if_neg hr, if_neg hr]
    have h1'' : w.drew.drew.heap[R]? = some (.cells #[.int .i64 most, .int .i64 (f : Nat), .slice p raw.length c] 82 (0, 0)) := h1
    refine rd_of (v := .slice p raw.length c) (cellOf h1'' rfl) ?_
    simp only [isB_i, isK_i, isP_i, isTup_i, isInt_i, isSl_i, isPtr_i, isCs_i, isStr_i, isFn_i, isIf_i, rd_i, br_t, br_f, orO_s, orO_n, gd_t, bv_add, bv_sub, bv_mul, bv_eql, bv_neq, bv_lss, bv_leq, bv_gtr, bv_geq, bv_quo, bv_rem, bv_shl, bv_shr, bv_seq, bv_sne, bv_ptr, bv_if, bv_map, bv_nf, bv_bool, bv_sl, bv_fn, uv_not, uv_neg, eqV, nilV, nc_ptr, nc_fn, nc_if, Option.map_some, toN, Nat.mul_one, implies_true, true_and, and_true, and_self]
    refine rd_of (v := .int .i64 (f : Nat)) (cellOf h1'' rfl) ?_
    obtain ⟨g, c', hs, hset⟩ := own_set (KK := fun _ => True) (x := .string x) h2 hfl rfl
    clear hset
    cases hs
    obtain ⟨g', hg', -, -, hcell⟩ := hc f _ (show (raw.map Value.string)[f]? = some (Value.string _) by rw [List.getElem?_map, rot_head raw f ⟨#[]⟩ hfl]; rfl)
    cases hg'
    simp only [isB_i, isK_i, isP_i, isTup_i, isInt_i, isSl_i, isPtr_i, isCs_i, isStr_i, isFn_i, isIf_i, rd_i, br_t, br_f, orO_s, orO_n, gd_t, bv_add, bv_sub, bv_mul, bv_eql, bv_neq, bv_lss, bv_leq, bv_gtr, bv_geq, bv_quo, bv_rem, bv_shl, bv_shr, bv_seq, bv_sne, bv_ptr, bv_if, bv_map, bv_nf, bv_bool, bv_sl, bv_fn, uv_not, uv_neg, eqV, nilV, nc_ptr, nc_fn, nc_if, Option.map_some, toN, Nat.mul_one, implies_true, true_and, and_true, and_self]
    have hF3 : Fm none' w w.drew.drew.drew := ((Fm.drew w).trans (Fm.drew _)).trans (Fm.drew _)
    have h13 : w.drew.drew.drew.heap[R]? = some (.cells #[.int .i64 most, .int .i64 (f : Nat), .slice (some ⟨g, 0, none⟩) raw.length c] 82 (0, 0)) := h1
    refine ⟨by omega, rd_of (((Fm.drew w).trans (Fm.drew _)).cell hcell id) ?_⟩
    refine ⟨fun w' => w'.heap[R]? = some (.cells #[.int .i64 most, .int .i64 (f : Nat), .slice (some ⟨g, 0, none⟩) raw.length c] 82 (0, 0)), h13, ?_⟩
    refine rd_of (v := .slice (some ⟨g, 0, none⟩) raw.length c) (cellOf h13 rfl) ⟨fun w' hw => rd_of (cellOf hw rfl) rfl, ?_⟩
    simp only [isB_i, isK_i, isP_i, isTup_i, isInt_i, isSl_i, isPtr_i, isCs_i, isStr_i, isFn_i, isIf_i, rd_i, br_t, br_f, orO_s, orO_n, gd_t, bv_add, bv_sub, bv_mul, bv_eql, bv_neq, bv_lss, bv_leq, bv_gtr, bv_geq, bv_quo, bv_rem, bv_shl, bv_shr, bv_seq, bv_sne, bv_ptr, bv_if, bv_map, bv_nf, bv_bool, bv_sl, bv_fn, uv_not, uv_neg, eqV, nilV, nc_ptr, nc_fn, nc_if, Option.map_some, toN, Nat.mul_one, implies_true, true_and, and_true, and_self]
    refine rd_of (v := .int .i64 (f : Nat)) (cellOf h13 rfl) ⟨fun w' hw => rd_of (cellOf hw rfl) rfl, ?_⟩
    simp only [isB_i, isK_i, isP_i, isTup_i, isInt_i, isSl_i, isPtr_i, isCs_i, isStr_i, isFn_i, isIf_i, rd_i, br_t, br_f, orO_s, orO_n, gd_t, bv_add, bv_sub, bv_mul, bv_eql, bv_neq, bv_lss, bv_leq, bv_gtr, bv_geq, bv_quo, bv_rem, bv_shl, bv_shr, bv_seq, bv_sne, bv_ptr, bv_if, bv_map, bv_nf, bv_bool, bv_sl, bv_fn, uv_not, uv_neg, eqV, nilV, nc_ptr, nc_fn, nc_if, Option.map_some, toN, Nat.mul_one, implies_true, true_and, and_true, and_self]
    refine ⟨by omega, fun _ _ => by omega, ?_⟩
    have h23 := h2.drew.drew.drew
    obtain ⟨g2, c2, hs, hset⟩ := own_set (x := .string x) h23 hfl rfl
    cases hs
    refine hset fun w59 ho59 hf59 => ?_
    have hRg : R ≠ g := fun e => hne g rfl e.symm
    have h59 := hf59.keep h13 hRg
    refine ⟨h59, ?_⟩
    have h59' : w59.drew.heap[R]? = some (.cells #[.int .i64 most, .int .i64 (f : Nat), .slice (some ⟨g, 0, none⟩) raw.length c] 82 (0, 0)) := h59
    refine ⟨fun w' => w'.cell? ⟨R, 0, none⟩ = some (.int .i64 most), cellOf h59' rfl, ?_⟩
    refine rd_of (v := .int .i64 most) (cellOf h59' rfl) ⟨fun w' hw => rd_of hw rfl, ?_⟩
    simp only [isB_i, isK_i, isP_i, isTup_i, isInt_i, isSl_i, isPtr_i, isCs_i, isStr_i, isFn_i, isIf_i, rd_i, br_t, br_f, orO_s, orO_n, gd_t, bv_add, bv_sub, bv_mul, bv_eql, bv_neq, bv_lss, bv_leq, bv_gtr, bv_geq, bv_quo, bv_rem, bv_shl, bv_shr, bv_seq, bv_sne, bv_ptr, bv_if, bv_map, bv_nf, bv_bool, bv_sl, bv_fn, uv_not, uv_neg, eqV, nilV, nc_ptr, nc_fn, nc_if, Option.map_some, toN, Nat.mul_one, implies_true, true_and, and_true, and_self]
    refine rd_of (v := .int .i64 (f : Nat)) (cellOf h59' rfl) ?_
    simp only [isB_i, isK_i, isP_i, isTup_i, isInt_i, isSl_i, isPtr_i, isCs_i, isStr_i, isFn_i, isIf_i, rd_i, br_t, br_f, orO_s, orO_n, gd_t, bv_add, bv_sub, bv_mul, bv_eql, bv_neq, bv_lss, bv_leq, bv_gtr, bv_geq, bv_quo, bv_rem, bv_shl, bv_shr, bv_seq, bv_sne, bv_ptr, bv_if, bv_map, bv_nf, bv_bool, bv_sl, bv_fn, uv_not, uv_neg, eqV, nilV, nc_ptr, nc_fn, nc_if, Option.map_some, toN, Nat.mul_one, implies_true, true_and, and_true, and_self]
    refine ⟨cellOf h59' rfl, ?_⟩
    rw [w64 (by omega), dv_ne _ (by omega)]
    have hm : Int.tmod ((f : Int) + 1) most = (((f + 1) % raw.length : Nat) : Int) := by
      rw [Int.tmod_eq_emod_of_nonneg (by omega), ← hlen, Int.natCast_emod]; rfl
    rw [hm]
    simp only [isB_i, isK_i, isP_i, isTup_i, isInt_i, isSl_i, isPtr_i, isCs_i, isStr_i, isFn_i, isIf_i, rd_i, br_t, br_f, orO_s, orO_n, gd_t, bv_add, bv_sub, bv_mul, bv_eql, bv_neq, bv_lss, bv_leq, bv_gtr, bv_geq, bv_quo, bv_rem, bv_shl, bv_shr, bv_seq, bv_sne, bv_ptr, bv_if, bv_map, bv_nf, bv_bool, bv_sl, bv_fn, uv_not, uv_neg, eqV, nilV, nc_ptr, nc_fn, nc_if, Option.map_some, toN, Nat.mul_one, implies_true, true_and, and_true, and_self]
    refine stC_one h59' (by simp) rfl fun w92 hw92 hf92 => ?_
    refine ⟨cellOf hw92 rfl, ⟨_, raw.set f x, (f + 1) % raw.length, hw92, ?_, by simp; omega, fun h => ?_, .inl ?_, ?_⟩, ?_⟩
    · rw [List.length_set, List.map_set]
      refine hf92.owns ho59.drew fun i hi e => ?_
      cases hi
      exact hRg e.symm
    · rw [List.length_set] at h; omega
    · rw [List.length_set]; exact Nat.mod_lt _ (by omega)
    · exact (rot_push raw f _ hfl).symm
    · refine hF3.none.trans ((hf59.mono fun i _ e => .inr ?_).trans ((Fm.drew w59).none.trans (hf92.mono fun i _ e => .inl e)))
      subst e
      exact own_block h2 rfl

theorem new27_c (a : Int) (w : World) (base : Nat) : callV Try.prog 27 [.int .i64 a] w fun v w' => ∃ R, v = .pointer (some ⟨R, 0, none⟩) ∧ w.heap.size ≤ R ∧ RingAt (Value.int .i64) 90 3 w' base R (max a 1) [] ∧ Fm none' w w' := by
  refine vc27 a w _ (allocC_of fun w' hb hs hf => ?_)
  exact ⟨_, rfl, Nat.le_refl _, ⟨_, [], 0, hb, World.ownsRow_nil w' base 3 1, by simp; omega, fun _ => rfl, .inr rfl, rfl⟩, hf⟩
theorem len30_c {w : World} {base R : Nat} {most : Int} {buf : List Int} (h : RingAt (Value.int .i64) 90 3 w base R most buf) : callV Try.prog 30 [.pointer (some ⟨R, 0, none⟩)] w fun v w' => v = .int .i64 buf.length ∧ w' = w := by
  obtain ⟨s, raw, f, h1, h2, h3, h4, h5, rfl⟩ := h
  obtain ⟨p, c, rfl, -⟩ := own_read h2
  refine vc30 ⟨R, 0, none⟩ w _ ?_
  simp only [addr_add, Nat.zero_add]
  refine rd_of (v := .slice p raw.length c) (cellOf h1 rfl) ?_
  exact ⟨by rw [rot_length], trivial⟩
theorem at31_c {w : World} {base R : Nat} {most : Int} {buf : List Int} (i : Int) (h : RingAt (Value.int .i64) 90 3 w base R most buf) (hn : buf.length ≤ 4096) :
    callV Try.prog 31 [.pointer (some ⟨R, 0, none⟩), .int .i64 i] w fun v w' => v = (if 0 ≤ i ∧ i < buf.length then .tuple #[(Value.int .i64) (buf.getD i.toNat 0), .bool true] else .tuple #[(Value.int .i64) 0, .bool false]) ∧ Fm none' w w' := by
  obtain ⟨s, raw, f, h1, h2, h3, h4, h5, rfl⟩ := h
  obtain ⟨p, c, rfl, hc⟩ := own_read h2
  rw [rot_length] at hn ⊢
  refine vc31 ⟨R, 0, none⟩ i w _ ?_
  simp only [addr_add, Nat.zero_add]
  refine br_dec (fun hi => ?_) (fun hi => ?_)
  · rw [if_neg (by omega)]; exact ⟨rfl, Fm.refl _ _⟩
  refine rd_of (v := .slice p raw.length c) (cellOf h1 rfl) ?_
  simp only [isB_i, isK_i, isP_i, isTup_i, isInt_i, isSl_i, isPtr_i, isCs_i, isStr_i, isFn_i, isIf_i, rd_i, br_t, br_f, orO_s, orO_n, gd_t, bv_add, bv_sub, bv_mul, bv_eql, bv_neq, bv_lss, bv_leq, bv_gtr, bv_geq, bv_quo, bv_rem, bv_shl, bv_shr, bv_seq, bv_sne, bv_ptr, bv_if, bv_map, bv_nf, bv_bool, bv_sl, bv_fn, uv_not, uv_neg, eqV, nilV, nc_ptr, nc_fn, nc_if, Option.map_some, toN, Nat.mul_one, implies_true, true_and, and_true, and_self]
  refine br_dec (fun hi2 => ?_) (fun hi2 => ?_)
  · rw [if_neg (by omega)]; exact ⟨rfl, Fm.refl _ _⟩
  rw [if_pos (by omega)]
  obtain ⟨i, rfl⟩ : ∃ j : Nat, i = j := ⟨i.toNat, by omega⟩
  have h1' : w.drew.heap[R]? = _ := h1
  refine rd_of (v := .slice p raw.length c) (cellOf h1' rfl) ?_
  refine rd_of (v := .int .i64 (f : Nat)) (cellOf h1' rfl) ?_
  simp only [isB_i, isK_i, isP_i, isTup_i, isInt_i, isSl_i, isPtr_i, isCs_i, isStr_i, isFn_i, isIf_i, rd_i, br_t, br_f, orO_s, orO_n, gd_t, bv_add, bv_sub, bv_mul, bv_eql, bv_neq, bv_lss, bv_leq, bv_gtr, bv_geq, bv_quo, bv_rem, bv_shl, bv_shr, bv_seq, bv_sne, bv_ptr, bv_if, bv_map, bv_nf, bv_bool, bv_sl, bv_fn, uv_not, uv_neg, eqV, nilV, nc_ptr, nc_fn, nc_if, Option.map_some, toN, Nat.mul_one, implies_true, true_and, and_true, and_self]
  refine rd_of (v := .slice p raw.length c) (cellOf h1' rfl) ?_
  simp only [isB_i, isK_i, isP_i, isTup_i, isInt_i, isSl_i, isPtr_i, isCs_i, isStr_i, isFn_i, isIf_i, rd_i, br_t, br_f, orO_s, orO_n, gd_t, bv_add, bv_sub, bv_mul, bv_eql, bv_neq, bv_lss, bv_leq, bv_gtr, bv_geq, bv_quo, bv_rem, bv_shl, bv_shr, bv_seq, bv_sne, bv_ptr, bv_if, bv_map, bv_nf, bv_bool, bv_sl, bv_fn, uv_not, uv_neg, eqV, nilV, nc_ptr, nc_fn, nc_if, Option.map_some, toN, Nat.mul_one, implies_true, true_and, and_true, and_self]
  rw [w64 (by omega), dv_ne _ (by omega)]
  have hm : Int.tmod ((f : Int) + (i : Int)) (raw.length : Int) = (((f + i) % raw.length : Nat) : Int) := by
    rw [Int.tmod_eq_emod_of_nonneg (by omega), Int.natCast_emod]; rfl
  rw [hm]
  have hlt : (f + i) % raw.length < raw.length := Nat.mod_lt _ (by omega)
  have hra := rot_at raw f i (by omega) (by omega)
  have hx : raw[(f + i) % raw.length]? = some ((rot raw f).getD i 0) := by
    rw [hra, List.getD_eq_getElem?_getD, List.getElem?_eq_getElem (by rw [rot_length]; omega)]; rfl
  obtain ⟨g, rfl, -, -, hcell⟩ := hc _ _ (show (raw.map (Value.int .i64))[(f + i) % raw.length]? = some ((Value.int .i64) _) by rw [List.getElem?_map, hx]; rfl)
  simp only [isB_i, isK_i, isP_i, isTup_i, isInt_i, isSl_i, isPtr_i, isCs_i, isStr_i, isFn_i, isIf_i, rd_i, br_t, br_f, orO_s, orO_n, gd_t, bv_add, bv_sub, bv_mul, bv_eql, bv_neq, bv_lss, bv_leq, bv_gtr, bv_geq, bv_quo, bv_rem, bv_shl, bv_shr, bv_seq, bv_sne, bv_ptr, bv_if, bv_map, bv_nf, bv_bool, bv_sl, bv_fn, uv_not, uv_neg, eqV, nilV, nc_ptr, nc_fn, nc_if, Option.map_some, toN, Nat.mul_one, implies_true, true_and, and_true, and_self]
  refine ⟨by omega, rd_of ((Fm.drew w).cell hcell id) ?_⟩
  simp only [isB_i, isK_i, isP_i, isTup_i, isInt_i, isSl_i, isPtr_i, isCs_i, isStr_i, isFn_i, isIf_i, rd_i, br_t, br_f, orO_s, orO_n, gd_t, bv_add, bv_sub, bv_mul, bv_eql, bv_neq, bv_lss, bv_leq, bv_gtr, bv_geq, bv_quo, bv_rem, bv_shl, bv_shr, bv_seq, bv_sne, bv_ptr, bv_if, bv_map, bv_nf, bv_bool, bv_sl, bv_fn, uv_not, uv_neg, eqV, nilV, nc_ptr, nc_fn, nc_if, Option.map_some, toN, Nat.mul_one, implies_true, true_and, and_true, and_self]
  exact Fm.drew w
set_option maxRecDepth 8000 in
theorem push28_c {w : World} {base R : Nat} {most : Int} {buf : List Int} (x : Int) (h : RingAt (Value.int .i64) 90 3 w base R most buf) (hn : buf.length ≤ 4096) (hb : base ≤ w.heap.size) (h1m : 1 ≤ most) :
    callV Try.prog 28 [.pointer (some ⟨R, 0, none⟩), .int .i64 x] w fun v w' => v = (if (buf.length : Int) < most then .tuple #[(Value.int .i64) 0, .bool false] else .tuple #[(Value.int .i64) (buf.headD 0), .bool true]) ∧
      RingAt (Value.int .i64) 90 3 w' base R most (if (buf.length : Int) < most then buf ++ [x] else buf.tail ++ [x]) ∧ Fm (fun i => i = R ∨ rowsOf 3 w base i) w w' := by
  obtain ⟨s, raw, f, h1, h2, h3, h4, h5, rfl⟩ := h
  obtain ⟨p, c, rfl, hc⟩ := own_read h2
  rw [rot_length] at hn ⊢
  refine vc28 ⟨R, 0, none⟩ x w _ ?_
  have h1' : w.drew.heap[R]? = some (.cells #[.int .i64 most, .int .i64 (f : Nat), .slice p raw.length c] 90 (0, 0)) := h1
  have hne : ∀ i, Value.ownBlock (.slice p raw.length c) = some i → i ≠ R := by
    rintro i hi rfl
    obtain ⟨_, cur, hcur⟩ := own_block h2 hi
    rw [h1] at hcur; cases hcur
  simp only [addr_add, Nat.zero_add, isB_i, isK_i, isP_i, isTup_i, isInt_i, isSl_i, isPtr_i, isCs_i, isStr_i, isFn_i, isIf_i, rd_i, br_t, br_f, orO_s, orO_n, gd_t, bv_add, bv_sub, bv_mul, bv_eql, bv_neq, bv_lss, bv_leq, bv_gtr, bv_geq, bv_quo, bv_rem, bv_shl, bv_shr, bv_seq, bv_sne, bv_ptr, bv_if, bv_map, bv_nf, bv_bool, bv_sl, bv_fn, uv_not, uv_neg, eqV, nilV, nc_ptr, nc_fn, nc_if, Option.map_some, toN, Nat.mul_one, implies_true, true_and, and_true, and_self]
  refine rd_of (v := .slice p raw.length c) (cellOf h1' rfl) ?_
  simp only [isB_i, isK_i, isP_i, isTup_i, isInt_i, isSl_i, isPtr_i, isCs_i, isStr_i, isFn_i, isIf_i, rd_i, br_t, br_f, orO_s, orO_n, gd_t, bv_add, bv_sub, bv_mul, bv_eql, bv_neq, bv_lss, bv_leq, bv_gtr, bv_geq, bv_quo, bv_rem, bv_shl, bv_shr, bv_seq, bv_sne, bv_ptr, bv_if, bv_map, bv_nf, bv_bool, bv_sl, bv_fn, uv_not, uv_neg, eqV, nilV, nc_ptr, nc_fn, nc_if, Option.map_some, toN, Nat.mul_one, implies_true, true_and, and_true, and_self]
  refine rd_of (v := .int .i64 most) (cellOf h1' rfl) ?_
  simp only [isB_i, isK_i, isP_i, isTup_i, isInt_i, isSl_i, isPtr_i, isCs_i, isStr_i, isFn_i, isIf_i, rd_i, br_t, br_f, orO_s, orO_n, gd_t, bv_add, bv_sub, bv_mul, bv_eql, bv_neq, bv_lss, bv_leq, bv_gtr, bv_geq, bv_quo, bv_rem, bv_shl, bv_shr, bv_seq, bv_sne, bv_ptr, bv_if, bv_map, bv_nf, bv_bool, bv_sl, bv_fn, uv_not, uv_neg, eqV, nilV, nc_ptr, nc_fn, nc_if, Option.map_some, toN, Nat.mul_one, implies_true, true_and, and_true, and_self]
  refine br_dec (fun hr => ?_) (fun hr => ?_)
  · obtain rfl := h4 hr
    rw [if_pos hr, if_pos hr, rot_zero]
    refine rd_of (v := .slice p raw.length c) (cellOf h1' rfl) ?_
    simp only [isB_i, isK_i, isP_i, isTup_i, isInt_i, isSl_i, isPtr_i, isCs_i, isStr_i, isFn_i, isIf_i, rd_i, br_t, br_f, orO_s, orO_n, gd_t, bv_add, bv_sub, bv_mul, bv_eql, bv_neq, bv_lss, bv_leq, bv_gtr, bv_geq, bv_quo, bv_rem, bv_shl, bv_shr, bv_seq, bv_sne, bv_ptr, bv_if, bv_map, bv_nf, bv_bool, bv_sl, bv_fn, uv_not, uv_neg, eqV, nilV, nc_ptr, nc_fn, nc_if, Option.map_some, toN, Nat.mul_one, implies_true, true_and, and_true, and_self]
    refine append_1 (by rw [row31]) row3 rfl rfl h2.drew hb (by unfold maxLen; omega) (by omega) ?_
    intro v' w' ho2 hf
    obtain ⟨p2, c2, rfl, -⟩ := own_read ho2
    simp only [isB_i, isK_i, isP_i, isTup_i, isInt_i, isSl_i, isPtr_i, isCs_i, isStr_i, isFn_i, isIf_i, rd_i, br_t, br_f, orO_s, orO_n, gd_t, bv_add, bv_sub, bv_mul, bv_eql, bv_neq, bv_lss, bv_leq, bv_gtr, bv_geq, bv_quo, bv_rem, bv_shl, bv_shr, bv_seq, bv_sne, bv_ptr, bv_if, bv_map, bv_nf, bv_bool, bv_sl, bv_fn, uv_not, uv_neg, eqV, nilV, nc_ptr, nc_fn, nc_if, Option.map_some, toN, Nat.mul_one, implies_true, true_and, and_true, and_self]
    refine stC_one (hf.keep h1' fun e => hne _ e rfl) (by simp) rfl fun w2 hw2 hf2 => ?_
    refine ⟨⟨_, raw ++ [x], 0, hw2, ?_, by simp; omega, fun _ => rfl, .inr rfl, (rot_zero _).symm⟩, ?_⟩
    · rw [List.length_append, List.map_append]
      refine hf2.owns ho2 fun i hi e => ?_
      subst e
      obtain ⟨_, cur, hc⟩ := own_block ho2 hi
      rw [hf.keep h1' fun e => hne _ e rfl] at hc
      cases hc
    · exact (Fm.drew w).none.trans ((hf.mono fun i _ h => .inr (own_block h2 h)).trans (hf2.mono fun i _ h => .inl h))
  · have hfl : f < raw.length := by omega
    have hlen : (raw.length : Int) = most := by omega
    rw [if_neg hr, if_neg hr]
    have h1'' : w.drew.drew.heap[R]? = some (.cells #[.int .i64 most, .int .i64 (f : Nat), .slice p raw.length c] 90 (0, 0)) := h1
    refine rd_of (v := .slice p raw.length c) (cellOf h1'' rfl) ?_
    simp only [isB_i, isK_i, isP_i, isTup_i, isInt_i, isSl_i, isPtr_i, isCs_i, isStr_i, isFn_i, isIf_i, rd_i, br_t, br_f, orO_s, orO_n, gd_t, bv_add, bv_sub, bv_mul, bv_eql, bv_neq, bv_lss, bv_leq, bv_gtr, bv_geq, bv_quo, bv_rem, bv_shl, bv_shr, bv_seq, bv_sne, bv_ptr, bv_if, bv_map, bv_nf, bv_bool, bv_sl, bv_fn, uv_not, uv_neg, eqV, nilV, nc_ptr, nc_fn, nc_if, Option.map_some, toN, Nat.mul_one, implies_true, true_and, and_true, and_self]
    refine rd_of (v := .int .i64 (f : Nat)) (cellOf h1'' rfl) ?_
    obtain ⟨g, c', hs, hset⟩ := own_set (KK := fun _ => True) (x := .int .i64 x) h2 hfl rfl
    clear hset
    cases hs
    obtain ⟨g', hg', -, -, hcell⟩ := hc f _ (show (raw.map (Value.int .i64))[f]? = some ((Value.int .i64) _) by rw [List.getElem?_map, rot_head raw f 0 hfl]; rfl)
    cases hg'
    simp only [isB_i, isK_i, isP_i, isTup_i, isInt_i, isSl_i, isPtr_i, isCs_i, isStr_i, isFn_i, isIf_i, rd_i, br_t, br_f, orO_s, orO_n, gd_t, bv_add, bv_sub, bv_mul, bv_eql, bv_neq, bv_lss, bv_leq, bv_gtr, bv_geq, bv_quo, bv_rem, bv_shl, bv_shr, bv_seq, bv_sne, bv_ptr, bv_if, bv_map, bv_nf, bv_bool, bv_sl, bv_fn, uv_not, uv_neg, eqV, nilV, nc_ptr, nc_fn, nc_if, Option.map_some, toN, Nat.mul_one, implies_true, true_and, and_true, and_self]
    have hF3 : Fm none' w w.drew.drew.drew := ((Fm.drew w).trans (Fm.drew _)).trans (Fm.drew _)
    have h13 : w.drew.drew.drew.heap[R]? = some (.cells #[.int .i64 most, .int .i64 (f : Nat), .slice (some ⟨g, 0, none⟩) raw.length c] 90 (0, 0)) := h1
    refine ⟨by omega, rd_of (((Fm.drew w).trans (Fm.drew _)).cell hcell id) ?_⟩
    refine ⟨fun w' => w'.heap[R]? = some (.cells #[.int .i64 most, .int .i64 (f : Nat), .slice (some ⟨g, 0, none⟩) raw.length c] 90 (0, 0)), h13, ?_⟩
    refine rd_of (v := .slice (some ⟨g, 0, none⟩) raw.length c) (cellOf h13 rfl) ⟨fun w' hw => rd_of (cellOf hw rfl) rfl, ?_⟩
    simp only [isB_i, isK_i, isP_i, isTup_i, isInt_i, isSl_i, isPtr_i, isCs_i, isStr_i, isFn_i, isIf_i, rd_i, br_t, br_f, orO_s, orO_n, gd_t, bv_add, bv_sub, bv_mul, bv_eql, bv_neq, bv_lss, bv_leq, bv_gtr, bv_geq, bv_quo, bv_rem, bv_shl, bv_shr, bv_seq, bv_sne, bv_ptr, bv_if, bv_map, bv_nf, bv_bool, bv_sl, bv_fn, uv_not, uv_neg, eqV, nilV, nc_ptr, nc_fn, nc_if, Option.map_some, toN, Nat.mul_one, implies_true, true_and, and_true, and_self]
    refine rd_of (v := .int .i64 (f : Nat)) (cellOf h13 rfl) ⟨fun w' hw => rd_of (cellOf hw rfl) rfl, ?_⟩
    simp only [isB_i, isK_i, isP_i, isTup_i, isInt_i, isSl_i, isPtr_i, isCs_i, isStr_i, isFn_i, isIf_i, rd_i, br_t, br_f, orO_s, orO_n, gd_t, bv_add, bv_sub, bv_mul, bv_eql, bv_neq, bv_lss, bv_leq, bv_gtr, bv_geq, bv_quo, bv_rem, bv_shl, bv_shr, bv_seq, bv_sne, bv_ptr, bv_if, bv_map, bv_nf, bv_bool, bv_sl, bv_fn, uv_not, uv_neg, eqV, nilV, nc_ptr, nc_fn, nc_if, Option.map_some, toN, Nat.mul_one, implies_true, true_and, and_true, and_self]
    refine ⟨by omega, fun _ _ => by omega, ?_⟩
    have h23 := h2.drew.drew.drew
    obtain ⟨g2, c2, hs, hset⟩ := own_set (x := .int .i64 x) h23 hfl rfl
    cases hs
    refine hset fun w59 ho59 hf59 => ?_
    have hRg : R ≠ g := fun e => hne g rfl e.symm
    have h59 := hf59.keep h13 hRg
    refine ⟨h59, ?_⟩
    have h59' : w59.drew.heap[R]? = some (.cells #[.int .i64 most, .int .i64 (f : Nat), .slice (some ⟨g, 0, none⟩) raw.length c] 90 (0, 0)) := h59
    refine ⟨fun w' => w'.cell? ⟨R, 0, none⟩ = some (.int .i64 most), cellOf h59' rfl, ?_⟩
    refine rd_of (v := .int .i64 most) (cellOf h59' rfl) ⟨fun w' hw => rd_of hw rfl, ?_⟩
    simp only [isB_i, isK_i, isP_i, isTup_i, isInt_i, isSl_i, isPtr_i, isCs_i, isStr_i, isFn_i, isIf_i, rd_i, br_t, br_f, orO_s, orO_n, gd_t, bv_add, bv_sub, bv_mul, bv_eql, bv_neq, bv_lss, bv_leq, bv_gtr, bv_geq, bv_quo, bv_rem, bv_shl, bv_shr, bv_seq, bv_sne, bv_ptr, bv_if, bv_map, bv_nf, bv_bool, bv_sl, bv_fn, uv_not, uv_neg, eqV, nilV, nc_ptr, nc_fn, nc_if, Option.map_some, toN, Nat.mul_one, implies_true, true_and, and_true, and_self]
    refine rd_of (v := .int .i64 (f : Nat)) (cellOf h59' rfl) ?_
    simp only [isB_i, isK_i, isP_i, isTup_i, isInt_i, isSl_i, isPtr_i, isCs_i, isStr_i, isFn_i, isIf_i, rd_i, br_t, br_f, orO_s, orO_n, gd_t, bv_add, bv_sub, bv_mul, bv_eql, bv_neq, bv_lss, bv_leq, bv_gtr, bv_geq, bv_quo, bv_rem, bv_shl, bv_shr, bv_seq, bv_sne, bv_ptr, bv_if, bv_map, bv_nf, bv_bool, bv_sl, bv_fn, uv_not, uv_neg, eqV, nilV, nc_ptr, nc_fn, nc_if, Option.map_some, toN, Nat.mul_one, implies_true, true_and, and_true, and_self]
    refine ⟨cellOf h59' rfl, ?_⟩
    rw [w64 (by omega), dv_ne _ (by omega)]
    have hm : Int.tmod ((f : Int) + 1) most = (((f + 1) % raw.length : Nat) : Int) := by
      rw [Int.tmod_eq_emod_of_nonneg (by omega), ← hlen, Int.natCast_emod]; rfl
    rw [hm]
    simp only [isB_i, isK_i, isP_i, isTup_i, isInt_i, isSl_i, isPtr_i, isCs_i, isStr_i, isFn_i, isIf_i, rd_i, br_t, br_f, orO_s, orO_n, gd_t, bv_add, bv_sub, bv_mul, bv_eql, bv_neq, bv_lss, bv_leq, bv_gtr, bv_geq, bv_quo, bv_rem, bv_shl, bv_shr, bv_seq, bv_sne, bv_ptr, bv_if, bv_map, bv_nf, bv_bool, bv_sl, bv_fn, uv_not, uv_neg, eqV, nilV, nc_ptr, nc_fn, nc_if, Option.map_some, toN, Nat.mul_one, implies_true, true_and, and_true, and_self]
    refine stC_one h59' (by simp) rfl fun w92 hw92 hf92 => ?_
    refine ⟨cellOf hw92 rfl, ⟨_, raw.set f x, (f + 1) % raw.length, hw92, ?_, by simp; omega, fun h => ?_, .inl ?_, ?_⟩, ?_⟩
    · rw [List.length_set, List.map_set]
      refine hf92.owns ho59.drew fun i hi e => ?_
      cases hi
      exact hRg e.symm
    · rw [List.length_set] at h; omega
    · rw [List.length_set]; exact Nat.mod_lt _ (by omega)
    · exact (rot_push raw f _ hfl).symm
    · refine hF3.none.trans ((hf59.mono fun i _ e => .inr ?_).trans ((Fm.drew w59).none.trans (hf92.mono fun i _ e => .inl e)))
      subst e
      exact own_block h2 rfl
end Go.Proofs.Ytlhgibiffekpfaa
