/- The reference's table: what Find, Add, Drop do.  Conditions: it lies as it is said. -/
import Derived.Test.YtlhgibiffekpfaaLib2
import Derived.Test.YtlhgibiffekpfaaMaps
import Derived.Test.YtlhgibiffekpfaaC5
import Derived.Test.YtlhgibiffekpfaaC6
namespace Go.Proofs.Ytlhgibiffekpfaa
set_option linter.unusedSimpArgs false
set_option linter.unusedVariables false
open Go Go.RowKit VC
/-- Entries, cell by cell. -/
def flatT (l : List (Int × Int)) : List Value := l.flatMap fun p => [.int .i64 p.1, .int .i64 p.2]
theorem flatT_length (l : List (Int × Int)) : (flatT l).length = l.length * 2 := by
  induction l with
  | nil => rfl
  | cons p l ih => simp only [flatT, List.flatMap_cons, List.length_append, List.length_cons, List.length_nil] at *; omega
theorem flatT_append (l k : List (Int × Int)) : flatT (l ++ k) = flatT l ++ flatT k := by simp [flatT]
theorem flatT_one {l : List (Int × Int)} : ∀ y ∈ flatT l, y.oneCell' = true := by
  intro y hy
  simp only [flatT, List.mem_flatMap] at hy
  obtain ⟨p, -, hy⟩ := hy
  simp at hy
  rcases hy with rfl | rfl <;> rfl
theorem flatT_at {l : List (Int × Int)} {j : Nat} {p : Int × Int} (h : l[j]? = some p) : (flatT l)[j * 2]? = some (.int .i64 p.1) ∧ (flatT l)[j * 2 + 1]? = some (.int .i64 p.2) := by
  induction l generalizing j with
  | nil => simp at h
  | cons q l ih =>
    cases j with
    | zero => simp at h; subst h; exact ⟨rfl, rfl⟩
    | succ j =>
      have := ih (j := j) (by simpa using h)
      rw [show (j + 1) * 2 = j * 2 + 2 by omega]
      exact this
theorem flatT_take (l : List (Int × Int)) (n : Nat) : (flatT l).take (n * 2) = flatT (l.take n) := by
  induction l generalizing n with
  | nil => simp [flatT]
  | cons q l ih =>
    cases n with
    | zero => rfl
    | succ n =>
      rw [show (n + 1) * 2 = n * 2 + 2 by omega]
      simp only [flatT, List.flatMap_cons, List.take_succ_cons, List.cons_append, List.nil_append]
      exact congrArg _ (congrArg _ (ih n))
theorem flatT_drop (l : List (Int × Int)) (n : Nat) : (flatT l).drop (n * 2) = flatT (l.drop n) := by
  induction l generalizing n with
  | nil => simp [flatT]
  | cons q l ih =>
    cases n with
    | zero => rfl
    | succ n =>
      rw [show (n + 1) * 2 = n * 2 + 2 by omega]
      simp only [flatT, List.flatMap_cons, List.drop_succ_cons, List.cons_append, List.nil_append]
      exact ih n
theorem flatT_set (l : List (Int × Int)) (n : Nat) (k x : Int) (y : Int) (h : l[n]? = some (k, y)) : (flatT l).set (n * 2 + 1) (.int .i64 x) = flatT (l.set n (k, x)) := by
  induction l generalizing n with
  | nil => simp at h
  | cons q l ih =>
    cases n with
    | zero => simp at h; subst h; rfl
    | succ n =>
      rw [show (n + 1) * 2 + 1 = (n * 2 + 1) + 2 by omega]
      simp only [flatT, List.flatMap_cons, List.set_cons_succ, List.cons_append, List.nil_append]
      exact congrArg _ (congrArg _ (ih n (by simpa using h)))
/-- The reference's table lies at Q; its row lies in block q. -/
def RefT (w : World) (Q : Nat) (most last : Int) (l : List (Int × Int)) (q : Option Nat) : Prop :=
  ∃ p c, w.heap[Q]? = some (.cells #[.int .i64 most, .int .i64 last, .slice p l.length c] 73 (0, 0)) ∧ w.ownsRow 0 78 2 (.slice p l.length c) l.length (flatT l) ∧ (Value.slice p l.length c).ownBlock = q
variable {w : World} {Q : Nat} {most last : Int} {l : List (Int × Int)} {q : Option Nat}
theorem RefT.blocks (h : RefT w Q most last l q) : (∃ c, w.heap[Q]? = some (.cells c 73 (0, 0))) ∧ ∀ i, q = some i → ∃ c, w.heap[i]? = some (.cells c 78 (0, 0)) := by
  obtain ⟨p, c, h1, h2, h3⟩ := h
  refine ⟨⟨_, h1⟩, fun i hi => ?_⟩
  obtain ⟨_, cur, hc⟩ := own_block h2 (h3.trans hi)
  exact ⟨cur, hc⟩
theorem RefT.keep {w' : World} {S : Nat → Prop} (h : RefT w Q most last l q) (f : Fm S w w') (hQ : ¬ S Q) (hq : ∀ i, q = some i → ¬ S i) : RefT w' Q most last l q := by
  obtain ⟨p, c, h1, h2, h3⟩ := h
  exact ⟨p, c, f.keep h1 hQ, f.owns h2 fun i hi => hq i (h3 ▸ hi), h3⟩
/-- An id's place. -/
def placeT (k : Int) (l : List (Int × Int)) (i : Nat) : Option Nat := (fnd k l i).map (·.1)
/-- What may be read of it. -/
theorem RefT.reads (h : RefT w Q most last l q) : ∃ p c, w.cell? ⟨Q, 0, none⟩ = some (.int .i64 most) ∧ w.cell? ⟨Q, 1, none⟩ = some (.int .i64 last) ∧ w.cell? ⟨Q, 2, none⟩ = some (.slice p l.length c) ∧ l.length ≤ c ∧
    (∀ (j : Nat) (y : Value), (flatT l)[j]? = some y → ∃ i, p = some ⟨i, 0, none⟩ ∧ q = some i ∧ w.cell? ⟨i, j, none⟩ = some y) ∧ ∀ (j : Nat) (x : Int × Int), l[j]? = some x → ∃ i, p = some ⟨i, 0, none⟩ ∧ q = some i ∧ w.cell? ⟨i, j * 2, none⟩ = some (.int .i64 x.1) ∧ w.cell? ⟨i, j * 2 + 1, none⟩ = some (.int .i64 x.2) := by
  obtain ⟨p, c, h1, h2, h3⟩ := h
  obtain ⟨p', c', hv, -, hrd⟩ := own_readS h2
  cases hv
  have key : ∀ (j : Nat) (y : Value), (flatT l)[j]? = some y → ∃ i, p = some ⟨i, 0, none⟩ ∧ q = some i ∧ w.cell? ⟨i, j, none⟩ = some y := fun j y hj => by
    obtain ⟨g, e1, -, e2, hc⟩ := hrd j y hj
    exact ⟨g, e1, h3.symm.trans e2, hc⟩
  refine ⟨p, c, cellOf h1 rfl, cellOf h1 rfl, cellOf h1 rfl, own_cap' h2, key, fun j x hj => ?_⟩
  obtain ⟨e1, e2⟩ := flatT_at hj
  obtain ⟨i, a1, a2, a3⟩ := key _ _ e1
  obtain ⟨i', b1, b2, b3⟩ := key _ _ e2
  rw [a2] at b2; cases b2
  exact ⟨i, a1, a2, a3, b3⟩
theorem fnd_drop {k : Int} : ∀ {l : List (Int × Int)} {i : Nat} {p : Int × Int}, l[i]? = some p → fnd k (l.drop i) i = if k = p.1 then some (i, p.2) else fnd k (l.drop (i + 1)) (i + 1) := by
  intro l i p h
  have hlt := (List.getElem?_eq_some_iff.1 h).1
  rw [List.drop_eq_getElem_cons hlt]
  have : l[i] = p := (List.getElem?_eq_some_iff.1 h).2
  simp only [fnd, this]
theorem find38_c (k : Int) (h : RefT w Q most last l q) (hl : l.length ≤ 4096) : callV Try.prog 38 [.pointer (some ⟨Q, 0, none⟩), .int .i64 k] w fun v w' => v = .int .i64 (match fnd k l 0 with | some x => (x.1 : Int) | none => -1) ∧ w' = w := by
  obtain ⟨p, c, r0, r1, r2, hc, -, hrd⟩ := h.reads
  refine vc38 ⟨Q, 0, none⟩ k w _ ?_
  refine ⟨fun u w' => ∃ j : Nat, j ≤ l.length ∧ u 5 = .int .i64 j ∧ w' = w ∧ fnd k l 0 = fnd k (l.drop j) j, fun u _ => l.length - (intOf (u 5)).toNat, ⟨0, by omega, rfl, rfl, rfl⟩, ?_⟩
  rintro u w3 ⟨j, hj, hu, rfl, hf⟩
  change u 5 = .int .i64 j at hu
  simp only [hu, r2, addr_add, Nat.zero_add, isB_i, isK_i, isP_i, isTup_i, isInt_i, isSl_i, isPtr_i, isCs_i, isStr_i, isFn_i, isIf_i, rd_i, br_t, br_f, orO_s, orO_n, gd_t, bv_add, bv_sub, bv_mul, bv_eql, bv_neq, bv_lss, bv_leq, bv_gtr, bv_geq, bv_quo, bv_rem, bv_shl, bv_shr, bv_seq, bv_sne, bv_ptr, bv_if, bv_map, bv_nf, bv_bool, bv_sl, bv_fn, uv_not, uv_neg, eqV, nilV, nc_ptr, nc_fn, nc_if, Option.map_some, toN, Nat.mul_one, implies_true, true_and, and_true, and_self]
  refine br_dec (fun hlt => ?_) (fun hlt => ?_)
  · obtain ⟨x, hx⟩ : ∃ x, l[j]? = some x := ⟨_, List.getElem?_eq_getElem (by omega)⟩
    obtain ⟨i, rfl, -, c1, c2⟩ := hrd j x hx
    rw [fnd_drop hx] at hf
    simp only [addr_add, Nat.zero_add, c1, isB_i, isK_i, isP_i, isTup_i, isInt_i, isSl_i, isPtr_i, isCs_i, isStr_i, isFn_i, isIf_i, rd_i, br_t, br_f, orO_s, orO_n, gd_t, bv_add, bv_sub, bv_mul, bv_eql, bv_neq, bv_lss, bv_leq, bv_gtr, bv_geq, bv_quo, bv_rem, bv_shl, bv_shr, bv_seq, bv_sne, bv_ptr, bv_if, bv_map, bv_nf, bv_bool, bv_sl, bv_fn, uv_not, uv_neg, eqV, nilV, nc_ptr, nc_fn, nc_if, Option.map_some, toN, Nat.mul_one, implies_true, true_and, and_true, and_self]
    refine ⟨by omega, ?_⟩
    refine br_dec (fun he => ?_) (fun he => ?_)
    · rw [if_pos he.symm] at hf
      rw [hf]
    · rw [if_neg (fun e => he e.symm)] at hf
      rw [w64 (by omega)]
      refine ⟨⟨j + 1, by omega, rfl, rfl, hf⟩, ?_⟩
      show l.length - ((j : Int) + 1).toNat < l.length - (j : Int).toNat; omega
  · rw [show j = l.length by omega, List.drop_length] at hf
    rw [hf]; rfl
theorem RefT.made {w1 : World} {l' : List (Int × Int)} {p : Option Addr} {c : Nat} {last' : Int} {cs : Array Value} (hq : w1.heap[Q]? = some (.cells cs 73 (0, 0))) (hcs : cs = #[.int .i64 most, .int .i64 last', .slice p l'.length c]) (ho : w1.ownsRow w.heap.size 78 2 (.slice p l'.length c) l'.length (flatT l')) :
    ∃ q', RefT w1 Q most last' l' q' ∧ ∀ i, q' = some i → w.heap.size ≤ i := by
  subst hcs
  exact ⟨_, ⟨p, c, hq, own_base ho (Nat.zero_le _), rfl⟩, fun i hi => (own_block ho hi).1⟩
/-- A new entry is appended to a row of one's own. -/
theorem entry_1 {w0 W : World} {p : Option Addr} {c nb : Nat} {x : Int × Int} {l : List (Int × Int)} {K : Value → World → Prop} (ho : W.ownsRow w0.heap.size 78 2 (.slice p l.length c) l.length (flatT l)) (hl : l.length ≤ 4096) (hW : Fm none' w0 W)
    (hb : W.heap[nb]? = some (.cells #[.int .i64 x.1, .int .i64 x.2] 78 (0, 0))) (k : ∀ p' c' W', W'.ownsRow w0.heap.size 78 2 (.slice p' (l ++ [x]).length c') (l ++ [x]).length (flatT (l ++ [x])) → Fm none' w0 W' → K (.slice p' (l ++ [x]).length c') W') :
    runs Try.prog (Builtin.append_ #[71, 71] 71 #[.slice p l.length c, .slice (some ⟨nb, 0, none⟩) 1 1]) W K := by
  refine append_rS (ys := [.int .i64 x.1, .int .i64 x.2]) (m := 1) (by rw [row71]) row78 rfl (by omega) ho rfl (by simp [Value.oneCell']) (fun j y hj => ⟨nb, 0, rfl, cellOf hb ?_⟩) hW.size (by unfold maxLen; omega) (by omega) ?_
  · rw [Nat.zero_add]
    match j, hj with
    | 0, hj => exact hj
    | 1, hj => exact hj
  · intro p' c' W' ho' hf' _
    have e1 : l.length + 1 = (l ++ [x]).length := by simp
    rw [e1] at ho' ⊢
    refine k p' c' W' ?_ (hW.trans' hf' fun i hi e => by have := (own_block ho e).1; omega)
    rw [flatT_append]; exact ho'
/-- The entries of a row that may be read are appended to a row of one's own. -/
theorem entry_L {w0 W : World} {p pl : Option Addr} {c n cl : Nat} {k l : List (Int × Int)} {K : Value → World → Prop} (ho : W.ownsRow w0.heap.size 78 2 (.slice p k.length c) k.length (flatT k)) (hk : k.length + l.length ≤ 4096) (hW : Fm none' w0 W) (hn : n = l.length)
    (hr : ∀ (j : Nat) (y : Value), (flatT l)[j]? = some y → ∃ i o, pl = some ⟨i, o, none⟩ ∧ w0.cell? ⟨i, o + j, none⟩ = some y) (kk : ∀ p' c' W', W'.ownsRow w0.heap.size 78 2 (.slice p' (k ++ l).length c') (k ++ l).length (flatT (k ++ l)) → Fm none' w0 W' → Fm (fun i => (Value.slice p k.length c).ownBlock = some i) W W' → K (.slice p' (k ++ l).length c') W') :
    runs Try.prog (Builtin.append_ #[71, 71] 71 #[.slice p k.length c, .slice pl n cl]) W K := by
  subst hn
  refine append_rS (ys := flatT l) (m := l.length) (by rw [row71]) row78 rfl (by omega) ho (flatT_length l) flatT_one (fun j y hj => ?_) hW.size (by unfold maxLen; omega) (by omega) ?_
  · obtain ⟨i, o, e, h⟩ := hr j y hj
    exact ⟨i, o, e, hW.cell h id⟩
  · intro p' c' W' ho' hf' _
    have e1 : k.length + l.length = (k ++ l).length := by simp
    rw [e1] at ho' ⊢
    refine kk p' c' W' ?_ (hW.trans' hf' fun i hi e => by have := (own_block ho e).1; omega) hf'
    rw [flatT_append]; exact ho'
theorem entry_0 {w0 W : World} {K : Value → World → Prop} (hW : Fm none' w0 W) (k : ∀ p c W', W'.ownsRow w0.heap.size 78 2 (.slice p ([] : List (Int × Int)).length c) ([] : List (Int × Int)).length (flatT []) → Fm none' w0 W' → K (.slice p ([] : List (Int × Int)).length c) W') :
    runs Try.prog (Instr.buildSlice 71 0 #[]) W K :=
  build_noneS (by rw [row71]) row78 fun w' ho hs hf => k _ _ w' (own_base ho hW.size) (hW.trans hf)
theorem entry_n {w0 W : World} {x : Int × Int} {K : Value → World → Prop} (hW : Fm none' w0 W) (k : ∀ nb W', W'.heap[nb]? = some (.cells #[.int .i64 x.1, .int .i64 x.2] 78 (0, 0)) → W.heap.size ≤ nb → Fm none' w0 W' → Fm none' W W' → K (.slice (some ⟨nb, 0, none⟩) 1 1) W') :
    runs Try.prog (Instr.buildSlice 71 1 #[(0, .agg #[.int .i64 x.1, .int .i64 x.2])]) W K :=
  build_Sg (cs := [.int .i64 x.1, .int .i64 x.2]) (by rw [row71]) row78 rfl (by omega) (by omega) rfl fun w' hb hs hf => k _ w' hb (Nat.le_refl _) (hW.trans hf) hf
theorem add39_c (x : Int) (h : RefT w Q most last l q) (hl : l.length ≤ 4095) (h0 : 0 ≤ last ∧ last < 4611686018427387904) :
    callV Try.prog 39 [.pointer (some ⟨Q, 0, none⟩), .int .i64 x] w fun v w' => v = (if max most 1 ≤ (l.length : Int) then .tuple #[.int .i64 0, .int .i64 5] else .tuple #[.int .i64 (last + 1), .int .i64 0]) ∧
      (∃ q', RefT w' Q most (if max most 1 ≤ (l.length : Int) then last else last + 1) (if max most 1 ≤ (l.length : Int) then l else l ++ [(last + 1, x)]) q' ∧ (q' = q ∨ ∀ i, q' = some i → w.heap.size ≤ i)) ∧ Fm (fun i => i = Q) w w' := by
  obtain ⟨p, c, r0, r1, r2, hc, hrf, -⟩ := h.reads
  refine vc39 ⟨Q, 0, none⟩ x w _ ?_
  simp only [addr_add, Nat.zero_add, cell_drew, r0, r2, isB_i, isK_i, isP_i, isTup_i, isInt_i, isSl_i, isPtr_i, isCs_i, isStr_i, isFn_i, isIf_i, rd_i, br_t, br_f, orO_s, orO_n, gd_t, bv_add, bv_sub, bv_mul, bv_eql, bv_neq, bv_lss, bv_leq, bv_gtr, bv_geq, bv_quo, bv_rem, bv_shl, bv_shr, bv_seq, bv_sne, bv_ptr, bv_if, bv_map, bv_nf, bv_bool, bv_sl, bv_fn, uv_not, uv_neg, eqV, nilV, nc_ptr, nc_fn, nc_if, Option.map_some, toN, Nat.mul_one, implies_true, true_and, and_true, and_self]
  refine br_dec (fun hm => ?_) (fun hm => ?_)
  · rw [if_pos hm, if_pos hm, if_pos hm]
    exact ⟨rfl, ⟨q, h.keep (Fm.drew w) id (fun _ _ => id), .inl rfl⟩, (Fm.drew w).none⟩
  rw [if_neg hm, if_neg hm, if_neg hm]
  obtain ⟨p0, c0, h1, h2, h3⟩ := h
  have h1' : w.drew.heap[Q]? = some (.cells #[.int .i64 most, .int .i64 last, .slice p0 l.length c0] 73 (0, 0)) := h1
  have hne : ∀ i, (Value.slice p0 l.length c0).ownBlock = some i → i ≠ Q := fun i hi e => by
    obtain ⟨_, cur, hcc⟩ := own_block h2 hi
    rw [e, h1] at hcc; cases hcc
  simp only [r1, isB_i, isK_i, isP_i, isTup_i, isInt_i, isSl_i, isPtr_i, isCs_i, isStr_i, isFn_i, isIf_i, rd_i, br_t, br_f, orO_s, orO_n, gd_t, bv_add, bv_sub, bv_mul, bv_eql, bv_neq, bv_lss, bv_leq, bv_gtr, bv_geq, bv_quo, bv_rem, bv_shl, bv_shr, bv_seq, bv_sne, bv_ptr, bv_if, bv_map, bv_nf, bv_bool, bv_sl, bv_fn, uv_not, uv_neg, eqV, nilV, nc_ptr, nc_fn, nc_if, Option.map_some, toN, Nat.mul_one, implies_true, true_and, and_true, and_self]
  rw [w64 (by omega)]
  refine stC_one h1' (by simp) rfl fun w8 hw8 hf8 => ?_
  have hR8 : RefT w8 Q most (last + 1) l q := ⟨p0, c0, hw8, hf8.owns (w := w.drew) h2 fun i hi e => hne i hi e, h3⟩
  have hF8 : Fm (fun i => i = Q) w w8 := (Fm.drew w).none.trans hf8
  obtain ⟨p, c, r0, r1, r2, hc, hrf, -⟩ := hR8.reads
  have hw8d : w8.drew.heap[Q]? = some (.cells #[.int .i64 most, .int .i64 (last + 1), .slice p0 l.length c0] 73 (0, 0)) := hw8
  have hs8 := hF8.size
  refine ⟨fun w' => Fm none' w8.drew w', Fm.refl _ _, ?_⟩
  have st : ∀ (a : Addr) (v : Value), w8.cell? a = some v → ∀ w', Fm none' w8.drew w' → rd (w'.cell? a) fun v' => v' = v := fun a v hv w' hf => rd_of (hf.cell (w := w8.drew) hv id) rfl
  simp only [cell_drew, r1, r2, isB_i, isK_i, isP_i, isTup_i, isInt_i, isSl_i, isPtr_i, isCs_i, isStr_i, isFn_i, isIf_i, rd_i, br_t, br_f, orO_s, orO_n, gd_t, bv_add, bv_sub, bv_mul, bv_eql, bv_neq, bv_lss, bv_leq, bv_gtr, bv_geq, bv_quo, bv_rem, bv_shl, bv_shr, bv_seq, bv_sne, bv_ptr, bv_if, bv_map, bv_nf, bv_bool, bv_sl, bv_fn, uv_not, uv_neg, eqV, nilV, nc_ptr, nc_fn, nc_if, Option.map_some, toN, Nat.mul_one, implies_true, true_and, and_true, and_self]
  refine ⟨st _ _ r2, st _ _ r1, ?_⟩
  have rr : ∀ (j : Nat) (y : Value), (flatT l)[j]? = some y → ∃ i o, p = some ⟨i, o, none⟩ ∧ w8.drew.cell? ⟨i, o + j, none⟩ = some y := fun j y hj => by
    obtain ⟨i, e, -, hcc⟩ := hrf j y hj
    exact ⟨i, 0, e, by rw [Nat.zero_add]; exact hcc⟩
  have fin : ∀ (p' : Option Addr) (c' : Nat) (W' : World), W'.ownsRow w8.drew.heap.size 78 2 (.slice p' (l ++ [(last + 1, x)]).length c') (l ++ [(last + 1, x)]).length (flatT (l ++ [(last + 1, x)])) → Fm none' w8.drew W' →
      stC W' ⟨Q, 2, none⟩ [.slice p' (l ++ [(last + 1, x)]).length c'] fun w60 => rd (w60.cell? ⟨Q, 1, none⟩) fun v61 => isK IntKind.i64 v61 fun i62 => (Value.tuple #[.int .i64 i62, .int .i64 0] = Value.tuple #[.int .i64 (last + 1), .int .i64 0] ∧
      (∃ q', RefT w60 Q most (last + 1) (l ++ [(last + 1, x)]) q' ∧ (q' = q ∨ ∀ i, q' = some i → w.heap.size ≤ i)) ∧ Fm (fun i => i = Q) w w60) := by
    intro p' c' W' ho hF
    refine stC_one (hF.keep hw8d id) (by simp) rfl fun w60 hw60 hf60 => ?_
    have ho60 := hf60.owns ho fun i hi e => by have h5 := (own_block ho hi).1; have h6 := lt_of_blk hw8d; omega
    refine rd_of (v := .int .i64 (last + 1)) (cellOf hw60 rfl) ?_
    simp only [isB_i, isK_i, isP_i, isTup_i, isInt_i, isSl_i, isPtr_i, isCs_i, isStr_i, isFn_i, isIf_i, rd_i, br_t, br_f, orO_s, orO_n, gd_t, bv_add, bv_sub, bv_mul, bv_eql, bv_neq, bv_lss, bv_leq, bv_gtr, bv_geq, bv_quo, bv_rem, bv_shl, bv_shr, bv_seq, bv_sne, bv_ptr, bv_if, bv_map, bv_nf, bv_bool, bv_sl, bv_fn, uv_not, uv_neg, eqV, nilV, nc_ptr, nc_fn, nc_if, Option.map_some, toN, Nat.mul_one, implies_true, true_and, and_true, and_self]
    obtain ⟨q', hR, hq'⟩ := RefT.made (w := w8.drew) hw60 rfl ho60
    exact ⟨⟨q', hR, .inr fun i hi => by have := hq' i hi; have e : w8.drew.heap.size = w8.heap.size := rfl; omega⟩, ((hF8.trans (Fm.drew w8).none).trans hF.none).trans hf60⟩
  constructor
  · refine entry_0 (Fm.refl _ _) fun p1 c1 w41 ho41 hF41 => ?_
    simp only [isB_i, isK_i, isP_i, isTup_i, isInt_i, isSl_i, isPtr_i, isCs_i, isStr_i, isFn_i, isIf_i, rd_i, br_t, br_f, orO_s, orO_n, gd_t, bv_add, bv_sub, bv_mul, bv_eql, bv_neq, bv_lss, bv_leq, bv_gtr, bv_geq, bv_quo, bv_rem, bv_shl, bv_shr, bv_seq, bv_sne, bv_ptr, bv_if, bv_map, bv_nf, bv_bool, bv_sl, bv_fn, uv_not, uv_neg, eqV, nilV, nc_ptr, nc_fn, nc_if, Option.map_some, toN, Nat.mul_one, implies_true, true_and, and_true, and_self]
    refine ⟨hF41, ?_, ?_⟩
    · refine entry_L ho41 (by simp; omega) hF41 rfl rr fun p2 c2 w46 ho46 hF46 _ => ?_
      simp only [isB_i, isK_i, isP_i, isTup_i, isInt_i, isSl_i, isPtr_i, isCs_i, isStr_i, isFn_i, isIf_i, rd_i, br_t, br_f, orO_s, orO_n, gd_t, bv_add, bv_sub, bv_mul, bv_eql, bv_neq, bv_lss, bv_leq, bv_gtr, bv_geq, bv_quo, bv_rem, bv_shl, bv_shr, bv_seq, bv_sne, bv_ptr, bv_if, bv_map, bv_nf, bv_bool, bv_sl, bv_fn, uv_not, uv_neg, eqV, nilV, nc_ptr, nc_fn, nc_if, Option.map_some, toN, Nat.mul_one, implies_true, true_and, and_true, and_self]
      refine ⟨hF46, entry_n (x := (last + 1, x)) hF46 fun nb w51 hb51 hnb hF51 hf51 => ?_⟩
      simp only [isB_i, isK_i, isP_i, isTup_i, isInt_i, isSl_i, isPtr_i, isCs_i, isStr_i, isFn_i, isIf_i, rd_i, br_t, br_f, orO_s, orO_n, gd_t, bv_add, bv_sub, bv_mul, bv_eql, bv_neq, bv_lss, bv_leq, bv_gtr, bv_geq, bv_quo, bv_rem, bv_shl, bv_shr, bv_seq, bv_sne, bv_ptr, bv_if, bv_map, bv_nf, bv_bool, bv_sl, bv_fn, uv_not, uv_neg, eqV, nilV, nc_ptr, nc_fn, nc_if, Option.map_some, toN, Nat.mul_one, implies_true, true_and, and_true, and_self]
      refine ⟨hF51, entry_1 (x := (last + 1, x)) (hf51.owns ho46 fun _ _ => id) (by simp; omega) hF51 hb51 fun p3 c3 w56 ho56 hF56 => ?_⟩
      simp only [isB_i, isK_i, isP_i, isTup_i, isInt_i, isSl_i, isPtr_i, isCs_i, isStr_i, isFn_i, isIf_i, rd_i, br_t, br_f, orO_s, orO_n, gd_t, bv_add, bv_sub, bv_mul, bv_eql, bv_neq, bv_lss, bv_leq, bv_gtr, bv_geq, bv_quo, bv_rem, bv_shl, bv_shr, bv_seq, bv_sne, bv_ptr, bv_if, bv_map, bv_nf, bv_bool, bv_sl, bv_fn, uv_not, uv_neg, eqV, nilV, nc_ptr, nc_fn, nc_if, Option.map_some, toN, Nat.mul_one, implies_true, true_and, and_true, and_self]
      exact ⟨hF56, fin p3 c3 w56 ho56 hF56⟩
    · refine entry_n (x := (last + 1, x)) hF41 fun nb w51 hb51 hnb hF51 hf51 => ?_
      simp only [isB_i, isK_i, isP_i, isTup_i, isInt_i, isSl_i, isPtr_i, isCs_i, isStr_i, isFn_i, isIf_i, rd_i, br_t, br_f, orO_s, orO_n, gd_t, bv_add, bv_sub, bv_mul, bv_eql, bv_neq, bv_lss, bv_leq, bv_gtr, bv_geq, bv_quo, bv_rem, bv_shl, bv_shr, bv_seq, bv_sne, bv_ptr, bv_if, bv_map, bv_nf, bv_bool, bv_sl, bv_fn, uv_not, uv_neg, eqV, nilV, nc_ptr, nc_fn, nc_if, Option.map_some, toN, Nat.mul_one, implies_true, true_and, and_true, and_self]
      refine ⟨hF51, entry_L (hf51.owns ho41 fun _ _ => id) (by simp; omega) hF51 rfl rr fun p2 c2 w46 ho46 hF46 hf46 => ?_⟩
      simp only [isB_i, isK_i, isP_i, isTup_i, isInt_i, isSl_i, isPtr_i, isCs_i, isStr_i, isFn_i, isIf_i, rd_i, br_t, br_f, orO_s, orO_n, gd_t, bv_add, bv_sub, bv_mul, bv_eql, bv_neq, bv_lss, bv_leq, bv_gtr, bv_geq, bv_quo, bv_rem, bv_shl, bv_shr, bv_seq, bv_sne, bv_ptr, bv_if, bv_map, bv_nf, bv_bool, bv_sl, bv_fn, uv_not, uv_neg, eqV, nilV, nc_ptr, nc_fn, nc_if, Option.map_some, toN, Nat.mul_one, implies_true, true_and, and_true, and_self]
      refine ⟨hF46, entry_1 (x := (last + 1, x)) ho46 (by simp; omega) hF46 (hf46.keep hb51 fun e => ?_) fun p3 c3 w56 ho56 hF56 => ?_⟩
      · obtain ⟨_, cur, hcc⟩ := own_block ho41 e; have := lt_of_blk hcc; omega
      simp only [isB_i, isK_i, isP_i, isTup_i, isInt_i, isSl_i, isPtr_i, isCs_i, isStr_i, isFn_i, isIf_i, rd_i, br_t, br_f, orO_s, orO_n, gd_t, bv_add, bv_sub, bv_mul, bv_eql, bv_neq, bv_lss, bv_leq, bv_gtr, bv_geq, bv_quo, bv_rem, bv_shl, bv_shr, bv_seq, bv_sne, bv_ptr, bv_if, bv_map, bv_nf, bv_bool, bv_sl, bv_fn, uv_not, uv_neg, eqV, nilV, nc_ptr, nc_fn, nc_if, Option.map_some, toN, Nat.mul_one, implies_true, true_and, and_true, and_self]
      exact ⟨hF56, fin p3 c3 w56 ho56 hF56⟩
  · refine entry_n (x := (last + 1, x)) (Fm.refl _ _) fun nb w51 hb51 hnb hF51 hf51 => ?_
    simp only [isB_i, isK_i, isP_i, isTup_i, isInt_i, isSl_i, isPtr_i, isCs_i, isStr_i, isFn_i, isIf_i, rd_i, br_t, br_f, orO_s, orO_n, gd_t, bv_add, bv_sub, bv_mul, bv_eql, bv_neq, bv_lss, bv_leq, bv_gtr, bv_geq, bv_quo, bv_rem, bv_shl, bv_shr, bv_seq, bv_sne, bv_ptr, bv_if, bv_map, bv_nf, bv_bool, bv_sl, bv_fn, uv_not, uv_neg, eqV, nilV, nc_ptr, nc_fn, nc_if, Option.map_some, toN, Nat.mul_one, implies_true, true_and, and_true, and_self]
    refine ⟨hF51, build_noneS (by rw [row71]) row78 fun w41 ho41 hs41 hf41 => ?_⟩
    have hF41 := hF51.trans hf41
    have hlt := lt_of_blk hb51
    simp only [isB_i, isK_i, isP_i, isTup_i, isInt_i, isSl_i, isPtr_i, isCs_i, isStr_i, isFn_i, isIf_i, rd_i, br_t, br_f, orO_s, orO_n, gd_t, bv_add, bv_sub, bv_mul, bv_eql, bv_neq, bv_lss, bv_leq, bv_gtr, bv_geq, bv_quo, bv_rem, bv_shl, bv_shr, bv_seq, bv_sne, bv_ptr, bv_if, bv_map, bv_nf, bv_bool, bv_sl, bv_fn, uv_not, uv_neg, eqV, nilV, nc_ptr, nc_fn, nc_if, Option.map_some, toN, Nat.mul_one, implies_true, true_and, and_true, and_self]
    refine ⟨hF41, entry_L (k := []) (own_base ho41 hF51.size) (by simp; omega) hF41 rfl rr fun p2 c2 w46 ho46 hF46 hf46 => ?_⟩
    simp only [isB_i, isK_i, isP_i, isTup_i, isInt_i, isSl_i, isPtr_i, isCs_i, isStr_i, isFn_i, isIf_i, rd_i, br_t, br_f, orO_s, orO_n, gd_t, bv_add, bv_sub, bv_mul, bv_eql, bv_neq, bv_lss, bv_leq, bv_gtr, bv_geq, bv_quo, bv_rem, bv_shl, bv_shr, bv_seq, bv_sne, bv_ptr, bv_if, bv_map, bv_nf, bv_bool, bv_sl, bv_fn, uv_not, uv_neg, eqV, nilV, nc_ptr, nc_fn, nc_if, Option.map_some, toN, Nat.mul_one, implies_true, true_and, and_true, and_self]
    refine ⟨hF46, entry_1 (x := (last + 1, x)) ho46 (by simp; omega) hF46 (hf46.keep (hf41.keep hb51 id) fun e => ?_) fun p3 c3 w56 ho56 hF56 => ?_⟩
    · have := (own_block ho41 e).1; omega
    simp only [isB_i, isK_i, isP_i, isTup_i, isInt_i, isSl_i, isPtr_i, isCs_i, isStr_i, isFn_i, isIf_i, rd_i, br_t, br_f, orO_s, orO_n, gd_t, bv_add, bv_sub, bv_mul, bv_eql, bv_neq, bv_lss, bv_leq, bv_gtr, bv_geq, bv_quo, bv_rem, bv_shl, bv_shr, bv_seq, bv_sne, bv_ptr, bv_if, bv_map, bv_nf, bv_bool, bv_sl, bv_fn, uv_not, uv_neg, eqV, nilV, nc_ptr, nc_fn, nc_if, Option.map_some, toN, Nat.mul_one, implies_true, true_and, and_true, and_self]
    exact ⟨hF56, fin p3 c3 w56 ho56 hF56⟩
theorem drop40_c (k : Int) (h : RefT w Q most last l q) (hl : l.length ≤ 4095) :
    callV Try.prog 40 [.pointer (some ⟨Q, 0, none⟩), .int .i64 k] w fun v w' => v = .bool (getM k l).isSome ∧ (∃ q', RefT w' Q most last (delM k l) q' ∧ (q' = q ∨ ∀ i, q' = some i → w.heap.size ≤ i)) ∧ Fm (fun i => i = Q) w w' := by
  refine vc40 ⟨Q, 0, none⟩ k w _ ?_
  refine (find38_c k h (by omega)).mono ?_
  rintro _ w1 ⟨rfl, rfl⟩
  cases hf : fnd k l 0 with
  | none =>
    obtain ⟨e1, -, e3, -⟩ := fnd_none hf
    simp only [isB_i, isK_i, isP_i, isTup_i, isInt_i, isSl_i, isPtr_i, isCs_i, isStr_i, isFn_i, isIf_i, rd_i, br_t, br_f, orO_s, orO_n, gd_t, bv_add, bv_sub, bv_mul, bv_eql, bv_neq, bv_lss, bv_leq, bv_gtr, bv_geq, bv_quo, bv_rem, bv_shl, bv_shr, bv_seq, bv_sne, bv_ptr, bv_if, bv_map, bv_nf, bv_bool, bv_sl, bv_fn, uv_not, uv_neg, eqV, nilV, nc_ptr, nc_fn, nc_if, Option.map_some, toN, Nat.mul_one, implies_true, true_and, and_true, and_self]
    refine br_dec (fun _ => ?_) (fun h => absurd (by omega) h)
    rw [e1, e3]
    exact ⟨rfl, ⟨q, h, .inl rfl⟩, Fm.refl _ _⟩
  | some y =>
    obtain ⟨i, v⟩ := y
    obtain ⟨n, rfl, hn, e2, -, e4⟩ := fnd_some hf
    have hlt := (List.getElem?_eq_some_iff.1 hn).1
    simp only [isB_i, isK_i, isP_i, isTup_i, isInt_i, isSl_i, isPtr_i, isCs_i, isStr_i, isFn_i, isIf_i, rd_i, br_t, br_f, orO_s, orO_n, gd_t, bv_add, bv_sub, bv_mul, bv_eql, bv_neq, bv_lss, bv_leq, bv_gtr, bv_geq, bv_quo, bv_rem, bv_shl, bv_shr, bv_seq, bv_sne, bv_ptr, bv_if, bv_map, bv_nf, bv_bool, bv_sl, bv_fn, uv_not, uv_neg, eqV, nilV, nc_ptr, nc_fn, nc_if, Option.map_some, toN, Nat.mul_one, implies_true, true_and, and_true, and_self, Nat.zero_add]
    refine br_dec (fun h => by omega) (fun _ => ?_)
    obtain ⟨p, c, r0, r1, r2, hc, hrf, -⟩ := h.reads
    obtain ⟨p0, c0, h1, h2, h3⟩ := id h
    have h1d : w1.drew.heap[Q]? = some (.cells #[.int .i64 most, .int .i64 last, .slice p0 l.length c0] 73 (0, 0)) := h1
    refine ⟨fun w' => Fm none' w1.drew w', Fm.refl _ _, ?_⟩
    have st : ∀ (a : Addr) (v : Value), w1.cell? a = some v → ∀ w', Fm none' w1.drew w' → rd (w'.cell? a) fun v' => v' = v := fun a v hv w' hf => rd_of (hf.cell (w := w1.drew) hv id) rfl
    simp only [cell_drew, r2, addr_add, Nat.zero_add, isB_i, isK_i, isP_i, isTup_i, isInt_i, isSl_i, isPtr_i, isCs_i, isStr_i, isFn_i, isIf_i, rd_i, br_t, br_f, orO_s, orO_n, gd_t, bv_add, bv_sub, bv_mul, bv_eql, bv_neq, bv_lss, bv_leq, bv_gtr, bv_geq, bv_quo, bv_rem, bv_shl, bv_shr, bv_seq, bv_sne, bv_ptr, bv_if, bv_map, bv_nf, bv_bool, bv_sl, bv_fn, uv_not, uv_neg, eqV, nilV, nc_ptr, nc_fn, nc_if, Option.map_some, toN, Nat.mul_one, implies_true, true_and, and_true, and_self]
    refine ⟨st _ _ r2, ?_⟩
    rw [w64 (by omega)]
    have slo : ∀ (w' : World) (KK : Value → World → Prop), KK (.slice (if c = 0 then p else p.map (·.add 0)) n c) w' → runs Try.prog (Instr.sliceAt 71 (.slice p l.length c) none (some (.int .i64 n)) none) w' KK := fun w' KK hk => by
      refine sliceAt_hiS (by rw [row71]) row78 (by omega) (by omega) ?_
      exact hk
    have shi : ∀ (w' : World) (KK : Value → World → Prop), KK (.slice (if c = n + 1 then p else p.map (·.add ((n + 1) * 2))) (l.length - (n + 1)) (c - (n + 1))) w' → runs Try.prog (Instr.sliceAt 71 (.slice p l.length c) (some (.int .i64 ((n : Int) + 1))) none none) w' KK := fun w' KK hk => by
      refine sliceAt_loS (by rw [row71]) row78 (by omega) (by omega) ?_
      exact hk
    refine slo _ _ ?_
    refine ⟨fun w' _ => slo w' _ ⟨rfl, rfl⟩, ?_⟩
    simp only [isB_i, isK_i, isP_i, isTup_i, isInt_i, isSl_i, isPtr_i, isCs_i, isStr_i, isFn_i, isIf_i, rd_i, br_t, br_f, orO_s, orO_n, gd_t, bv_add, bv_sub, bv_mul, bv_eql, bv_neq, bv_lss, bv_leq, bv_gtr, bv_geq, bv_quo, bv_rem, bv_shl, bv_shr, bv_seq, bv_sne, bv_ptr, bv_if, bv_map, bv_nf, bv_bool, bv_sl, bv_fn, uv_not, uv_neg, eqV, nilV, nc_ptr, nc_fn, nc_if, Option.map_some, toN, Nat.mul_one, implies_true, true_and, and_true, and_self]
    refine ⟨st _ _ r2, ?_⟩
    refine shi _ _ ?_
    refine ⟨fun w' _ => shi w' _ ⟨rfl, rfl⟩, ?_⟩
    simp only [isB_i, isK_i, isP_i, isTup_i, isInt_i, isSl_i, isPtr_i, isCs_i, isStr_i, isFn_i, isIf_i, rd_i, br_t, br_f, orO_s, orO_n, gd_t, bv_add, bv_sub, bv_mul, bv_eql, bv_neq, bv_lss, bv_leq, bv_gtr, bv_geq, bv_quo, bv_rem, bv_shl, bv_shr, bv_seq, bv_sne, bv_ptr, bv_if, bv_map, bv_nf, bv_bool, bv_sl, bv_fn, uv_not, uv_neg, eqV, nilV, nc_ptr, nc_fn, nc_if, Option.map_some, toN, Nat.mul_one, implies_true, true_and, and_true, and_self]
    refine entry_0 (Fm.refl _ _) fun p1 c1 w57 ho57 hF57 => ?_
    simp only [isB_i, isK_i, isP_i, isTup_i, isInt_i, isSl_i, isPtr_i, isCs_i, isStr_i, isFn_i, isIf_i, rd_i, br_t, br_f, orO_s, orO_n, gd_t, bv_add, bv_sub, bv_mul, bv_eql, bv_neq, bv_lss, bv_leq, bv_gtr, bv_geq, bv_quo, bv_rem, bv_shl, bv_shr, bv_seq, bv_sne, bv_ptr, bv_if, bv_map, bv_nf, bv_bool, bv_sl, bv_fn, uv_not, uv_neg, eqV, nilV, nc_ptr, nc_fn, nc_if, Option.map_some, toN, Nat.mul_one, implies_true, true_and, and_true, and_self]
    have hft : ∀ (j : Nat) (y : Value), (flatT (l.take n))[j]? = some y → (flatT l)[j]? = some y := fun j y hj => by
      rw [← flatT_take, List.getElem?_take] at hj
      split at hj
      · exact hj
      · cases hj
    have hfd : ∀ (j : Nat) (y : Value), (flatT (l.drop (n + 1)))[j]? = some y → (flatT l)[(n + 1) * 2 + j]? = some y := fun j y hj => by
      rw [← flatT_drop, List.getElem?_drop] at hj
      exact hj
    refine ⟨hF57, entry_L (l := l.take n) ho57 (by simp; omega) hF57 (by simp; omega) (fun j y hj => ?_) fun p2 c2 w62 ho62 hF62 _ => ?_⟩
    · obtain ⟨i, e, -, hcc⟩ := hrf j y (hft j y hj)
      subst e
      refine ⟨i, 0, ?_, by rw [Nat.zero_add]; exact hcc⟩
      split <;> simp [addr_add]
    simp only [isB_i, isK_i, isP_i, isTup_i, isInt_i, isSl_i, isPtr_i, isCs_i, isStr_i, isFn_i, isIf_i, rd_i, br_t, br_f, orO_s, orO_n, gd_t, bv_add, bv_sub, bv_mul, bv_eql, bv_neq, bv_lss, bv_leq, bv_gtr, bv_geq, bv_quo, bv_rem, bv_shl, bv_shr, bv_seq, bv_sne, bv_ptr, bv_if, bv_map, bv_nf, bv_bool, bv_sl, bv_fn, uv_not, uv_neg, eqV, nilV, nc_ptr, nc_fn, nc_if, Option.map_some, toN, Nat.mul_one, implies_true, true_and, and_true, and_self]
    refine ⟨hF62, entry_L (l := l.drop (n + 1)) ho62 (by simp; omega) hF62 (by simp) (fun j y hj => ?_) fun p3 c3 w67 ho67 hF67 _ => ?_⟩
    · obtain ⟨i, e, -, hcc⟩ := hrf _ y (hfd j y hj)
      subst e
      have hj' := (List.getElem?_eq_some_iff.1 hj).1
      rw [flatT_length, List.length_drop] at hj'
      refine ⟨i, (n + 1) * 2, ?_, hcc⟩
      rw [if_neg (by omega)]
      simp [addr_add]
    simp only [isB_i, isK_i, isP_i, isTup_i, isInt_i, isSl_i, isPtr_i, isCs_i, isStr_i, isFn_i, isIf_i, rd_i, br_t, br_f, orO_s, orO_n, gd_t, bv_add, bv_sub, bv_mul, bv_eql, bv_neq, bv_lss, bv_leq, bv_gtr, bv_geq, bv_quo, bv_rem, bv_shl, bv_shr, bv_seq, bv_sne, bv_ptr, bv_if, bv_map, bv_nf, bv_bool, bv_sl, bv_fn, uv_not, uv_neg, eqV, nilV, nc_ptr, nc_fn, nc_if, Option.map_some, toN, Nat.mul_one, implies_true, true_and, and_true, and_self]
    refine ⟨hF67, stC_one (hF67.keep h1d id) (by simp) rfl fun w75 hw75 hf75 => ?_⟩
    have hQlt := lt_of_blk h1d
    have ho75 := hf75.owns ho67 fun i hi e => by have h5 := (own_block ho67 hi).1; omega
    have hdel : ([] ++ l.take n) ++ l.drop (n + 1) = delM k l := by rw [e4, List.nil_append, List.eraseIdx_eq_take_drop_succ]
    rw [hdel] at ho75 hw75
    obtain ⟨q', hR, hq'⟩ := RefT.made (w := w1.drew) hw75 rfl ho75
    exact ⟨by rw [e2]; rfl, ⟨q', hR, .inr hq'⟩, ((Fm.drew w1).none.trans hF67.none).trans hf75⟩
end Go.Proofs.Ytlhgibiffekpfaa
