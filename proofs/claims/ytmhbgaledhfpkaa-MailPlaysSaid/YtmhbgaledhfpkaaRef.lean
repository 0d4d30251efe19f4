/- The box of the reference (a plain slice): what New, Put, Take, Drain do.  Conditions: it lies as it is said to lie. -/
import Derived.Test.YtmhbgaledhfpkaaBoxC
namespace Go.Proofs.Ytmhbgaledhfpkaa
set_option linter.unusedSimpArgs false
set_option linter.unusedVariables false
open Go Go.RowKit Go.Conc VC

/-- The reference's box lies at D. -/
def RefAt (w : World) (base D cap : Nat) (buf : List Value) (lost : Int) : Prop :=
  ∃ s, w.heap[D]? = some (.cells #[.int .i64 cap, s, .int .i64 lost] 43 (0, 0)) ∧ w.ownsRow base 3 1 s buf.length buf
theorem RefAt.keep {w w' : World} {base D cap : Nat} {buf : List Value} {lost : Int} {S : Nat → Prop} (h : RefAt w base D cap buf lost) (f : Fm S w w') (hD : ¬ S D) (hR : ∀ i, rowsOf 3 w base i → ¬ S i) : RefAt w' base D cap buf lost := by
  obtain ⟨s, h1, h2⟩ := h
  exact ⟨s, f.keep h1 hD, f.owns h2 fun i hi => hR i (own_block h2 hi)⟩
theorem new14_c (a : Int) (w : World) (base : Nat) : callV Try.prog 14 [.int .i64 a] w fun v w' => ∃ D, v = .pointer (some ⟨D, 0, none⟩) ∧ w.heap.size ≤ D ∧ RefAt w' base D (room a) [] 0 ∧ Fm none' w w' := by
  refine vc14 a w _ (allocC_of fun w' hb hs hf => ?_)
  have h0 : min (max a 1) 4096 = (room a : Int) := by unfold room; omega
  rw [h0] at hb
  exact ⟨_, rfl, Nat.le_refl _, ⟨_, hb, World.ownsRow_nil w' base 3 1⟩, hf⟩
theorem ref_apart {w : World} {base D cap : Nat} {s : Value} {lost : Int} {n : Nat} {xs : List Value} (h1 : w.heap[D]? = some (.cells #[.int .i64 cap, s, .int .i64 lost] 43 (0, 0))) (h2 : w.ownsRow base 3 1 s n xs) : s.ownBlock ≠ some D := by
  intro h
  obtain ⟨_, cur, hc⟩ := own_block h2 h
  rw [h1] at hc
  cases hc
theorem put16_c {w : World} {base D cap : Nat} {buf : List Value} {lost : Int} (x : Int) (h : RefAt w base D cap buf lost) (hb : base ≤ w.heap.size) (hn : buf.length ≤ 4096) (h0 : 0 ≤ lost) (h1 : lost < 4611686018427387904) :
    callV Try.prog 16 [.pointer (some ⟨D, 0, none⟩), .int .i64 x] w fun v w' => v = .bool (decide (buf.length < cap)) ∧ RefAt w' base D cap (if buf.length < cap then buf ++ [.int .i64 x] else buf) (if buf.length < cap then lost else lost + 1) ∧ Fm (fun i => i = D ∨ rowsOf 3 w base i) w w' := by
  obtain ⟨s, hD, ho⟩ := h
  have hne := ref_apart hD ho
  obtain ⟨p, cp, rfl, -⟩ := own_read ho
  refine vc16 ⟨D, 0, none⟩ x w _ ?_
  have hD' : w.drew.heap[D]? = some (.cells #[.int .i64 cap, .slice p buf.length cp, .int .i64 lost] 43 (0, 0)) := hD
  simp only [addr_add, Nat.zero_add]
  refine rd_of (v := .slice p buf.length cp) (cellOf hD' rfl) ?_
  simp only [isB_i, isTup_i, isInt_i, isSl_i, isPtr_i, isCs_i, isStr_i, isFn_i, isIf_i, rd_i, br_t, br_f, orO_s, orO_n, gd_t, bv_add, bv_sub, bv_mul, bv_eql, bv_neq, bv_lss, bv_leq, bv_gtr, bv_geq, bv_quo, bv_rem, bv_shl, bv_shr, bv_seq, bv_sne, bv_ptr, bv_if, bv_map, bv_nf, bv_bool, bv_sl, bv_fn, uv_not, uv_neg, eqV, nilV, Option.map_some, toN, Nat.mul_one, implies_true, true_and, and_true, and_self]
  refine rd_of (v := .int .i64 cap) (cellOf hD' rfl) ?_
  simp only [isB_i, isTup_i, isInt_i, isSl_i, isPtr_i, isCs_i, isStr_i, isFn_i, isIf_i, rd_i, br_t, br_f, orO_s, orO_n, gd_t, bv_add, bv_sub, bv_mul, bv_eql, bv_neq, bv_lss, bv_leq, bv_gtr, bv_geq, bv_quo, bv_rem, bv_shl, bv_shr, bv_seq, bv_sne, bv_ptr, bv_if, bv_map, bv_nf, bv_bool, bv_sl, bv_fn, uv_not, uv_neg, eqV, nilV, Option.map_some, toN, Nat.mul_one, implies_true, true_and, and_true, and_self]
  refine br_dec (fun hr => ?_) (fun hr => ?_)
  · refine rd_of (v := .int .i64 lost) (cellOf hD' rfl) ?_
    simp only [isB_i, isTup_i, isInt_i, isSl_i, isPtr_i, isCs_i, isStr_i, isFn_i, isIf_i, rd_i, br_t, br_f, orO_s, orO_n, gd_t, bv_add, bv_sub, bv_mul, bv_eql, bv_neq, bv_lss, bv_leq, bv_gtr, bv_geq, bv_quo, bv_rem, bv_shl, bv_shr, bv_seq, bv_sne, bv_ptr, bv_if, bv_map, bv_nf, bv_bool, bv_sl, bv_fn, uv_not, uv_neg, eqV, nilV, Option.map_some, toN, Nat.mul_one, implies_true, true_and, and_true, and_self]
    rw [w64 (by omega)]
    refine rd_of (v := ()) rfl ?_
    refine stC_one hD' (by simp) rfl fun w' hw hf => ?_
    rw [if_neg (by omega), if_neg (by omega)]
    refine ⟨by simp; omega, ⟨_, hw, hf.owns ho.drew fun i hi e => hne (e ▸ hi)⟩, (Fm.drew w).none.trans (hf.mono fun i _ h => .inl h)⟩
  · refine rd_of (v := .slice p buf.length cp) (cellOf hD' rfl) ?_
    refine append_one (by rw [row41]) row3 rfl rfl ho.drew hb (by unfold maxLen; omega) (by omega) ?_
    intro v' w' ho2 hf hv
    refine rd_of (v := ()) (by simp [hv, gd]) ?_
    have hne' : ∀ i, Value.ownBlock (.slice p buf.length cp) = some i → i ≠ D := fun i hi e => hne (e ▸ hi)
    refine stC_one (hf.keep hD' fun e => hne e) (by simp) hv fun w2 hw2 hf2 => ?_
    rw [if_pos (by omega), if_pos (by omega)]
    refine ⟨by simp; omega, ⟨_, hw2, ?_⟩, ?_⟩
    · rw [List.length_append]
      refine hf2.owns ho2 fun i hi e => ?_
      subst e
      obtain ⟨_, cur, hc⟩ := own_block ho2 hi
      rw [hf.keep hD' fun e => hne e] at hc
      cases hc
    · refine (Fm.drew w).none.trans ((hf.mono fun i _ h => .inr (own_block ho h)).trans (hf2.mono fun i _ h => .inl h))
theorem drain22_c {w : World} {base D cap : Nat} {buf : List Value} {lost : Int} (h : RefAt w base D cap buf lost) :
    callV Try.prog 22 [.pointer (some ⟨D, 0, none⟩)] w fun v w' => w'.ownsRow base 3 1 v buf.length buf ∧ RefAt w' base D cap [] lost ∧ Fm (fun i => i = D) w w' := by
  obtain ⟨s, hD, ho⟩ := h
  have hne := ref_apart hD ho
  refine vc22 ⟨D, 0, none⟩ w _ ?_
  simp only [addr_add, Nat.zero_add]
  refine rd_of (v := s) (cellOf hD rfl) ?_
  refine stC_one hD (by simp) rfl fun w' hw hf => ?_
  exact ⟨hf.owns ho fun i hi e => hne (e ▸ hi), ⟨_, hw, World.ownsRow_nil w' base 3 1⟩, hf⟩
theorem take18_c {w : World} {base D cap : Nat} {buf : List Value} {lost : Int} (h : RefAt w base D cap buf lost) (hb : base ≤ w.heap.size) (hn : buf.length ≤ 4096) (h1 : ∀ x ∈ buf, x.oneCell' = true) :
    callV Try.prog 18 [.pointer (some ⟨D, 0, none⟩)] w fun v w' => v = .tuple #[buf.headD (.int .i64 0), .bool (!buf.isEmpty)] ∧ RefAt w' base D cap buf.tail lost ∧ Fm (fun i => i = D) w w' := by
  obtain ⟨s, hD, ho⟩ := h
  have hne := ref_apart hD ho
  obtain ⟨p, cp, rfl, hcell⟩ := own_read ho
  refine vc18 ⟨D, 0, none⟩ w _ ?_
  simp only [addr_add, Nat.zero_add]
  refine rd_of (v := .slice p buf.length cp) (cellOf hD rfl) ?_
  simp only [isB_i, isTup_i, isInt_i, isSl_i, isPtr_i, isCs_i, isStr_i, isFn_i, isIf_i, rd_i, br_t, br_f, orO_s, orO_n, gd_t, bv_add, bv_sub, bv_mul, bv_eql, bv_neq, bv_lss, bv_leq, bv_gtr, bv_geq, bv_quo, bv_rem, bv_shl, bv_shr, bv_seq, bv_sne, bv_ptr, bv_if, bv_map, bv_nf, bv_bool, bv_sl, bv_fn, uv_not, uv_neg, eqV, nilV, Option.map_some, toN, Nat.mul_one, implies_true, true_and, and_true, and_self]
  cases buf with
  | nil =>
    refine br_dec (fun _ => ?_) (fun h => absurd rfl h)
    exact ⟨rfl, ⟨_, hD, ho⟩, Fm.refl _ _⟩
  | cons x xs =>
    refine br_dec (fun h => by simp at h; omega) (fun _ => ?_)
    refine rd_of (v := .slice p (x :: xs).length cp) (cellOf hD rfl) ?_
    obtain ⟨g, rfl, hg, hgs, hc0⟩ := hcell 0 x rfl
    simp only [isB_i, isTup_i, isInt_i, isSl_i, isPtr_i, isCs_i, isStr_i, isFn_i, isIf_i, rd_i, br_t, br_f, orO_s, orO_n, gd_t, bv_add, bv_sub, bv_mul, bv_eql, bv_neq, bv_lss, bv_leq, bv_gtr, bv_geq, bv_quo, bv_rem, bv_shl, bv_shr, bv_seq, bv_sne, bv_ptr, bv_if, bv_map, bv_nf, bv_bool, bv_sl, bv_fn, uv_not, uv_neg, eqV, nilV, Option.map_some, toN, Nat.mul_one, implies_true, true_and, and_true, and_self]
    refine ⟨⟨by omega, by simp⟩, rd_of (v := x) (by simpa [addr_add] using hc0) ?_⟩
    refine build_none (by rw [row41]) row3 fun v10 w11 ho10 hlt hf11 => ?_
    have hD11 := hf11.keep hD (fun h => h)
    have hl : (x :: xs).length = xs.length + 1 := rfl
    refine rd_of (v := .slice (some ⟨g, 0, none⟩) (x :: xs).length cp) (cellOf hD11 rfl) ?_
    refine sliceAt_lo (by rw [row41]) row3 (by omega) (by omega) ?_
    have hcap : (x :: xs).length ≤ cp := by
      rcases ho.2 with ⟨h, _⟩ | ⟨g', cap', cur, h, _, _, h2, _⟩
      · cases h
      · cases h; exact h2
    have h10 : ∀ i, v10.ownBlock = some i → w.heap.size ≤ i := fun i hi => (own_block ho10 hi).1
    have key : ∀ ad : Option Addr, (∀ (j : Nat) (u : Value), xs[j]? = some u → ad = some ⟨g, 1, none⟩) → ad.isSome → runs Try.prog (Builtin.append_ #[41, 41] 41 #[v10, .slice ad xs.length (cp - 1)]) w11 fun v15 w16 => rd (gd (v15.oneCell' && true)) fun _ => stC w16 ⟨D, 1, none⟩ [v15] fun w17 =>
        (Value.tuple #[x, .bool true] = .tuple #[(x :: xs).headD (.int .i64 0), .bool (!(x :: xs).isEmpty)] ∧ RefAt w17 base D cap (x :: xs).tail lost ∧ Fm (fun i => i = D) w w17) := by
      intro ad had hs
      obtain ⟨ad, rfl⟩ := Option.isSome_iff_exists.1 hs
      refine append_run (by rw [row41]) row3 rfl ho10 rfl ?_ (fun u hu => h1 u (List.mem_cons_of_mem _ hu)) (by omega) (by unfold maxLen; omega) (by omega) ?_
      · intro j u hu
        obtain rfl := Option.some.inj (had j u hu)
        obtain ⟨g', hg', -, -, hc⟩ := hcell (j + 1) u (by simpa using hu)
        cases hg'
        rw [addr_add] at hc ⊢
        rw [show 1 + j = 0 + (j + 1) by omega]
        exact hf11.cell hc (fun h => h)
      · intro v15 w16 ho15 hf16 hv15
        refine rd_of (v := ()) (by simp [hv15, gd]) ?_
        have hDlt := lt_of_blk hD
        refine stC_one (hf16.keep hD11 fun e => by have := h10 _ e; omega) (by simp) hv15 fun w17 hw17 hf17 => ?_
        refine ⟨rfl, ⟨_, hw17, ?_⟩, ?_⟩
        · have ho2 : w16.ownsRow base 3 1 v15 xs.length xs := by
            have := own_base ho15 hb
            simpa using this
          refine hf17.owns ho2 fun i hi e => ?_
          subst e
          have := (own_block ho15 hi).1
          omega
        · exact (hf11.none.trans' hf16 fun i hi e => by have := h10 _ e; omega).trans hf17
    have hl1 : (x :: xs).length - Int.toNat 1 = xs.length := rfl
    rw [hl1]
    exact key _ (fun j u hu => by
      have := (List.getElem?_eq_some_iff.1 hu).1
      rw [if_neg (by simp at hcap; omega)]; rfl) (by split <;> rfl)
theorem same20_c {w : World} {b1 b2 n : Nat} {va vb : Value} {xs : List Value} (ha : w.ownsRow b1 3 1 va n xs) (hb : w.ownsRow b2 3 1 vb n xs) (hi : ∀ x ∈ xs, ∃ k, x = .int .i64 k) (hn : n ≤ 4096) :
    callV Try.prog 20 [va, vb] w fun v w' => v = .bool true ∧ Fm none' w w' := by
  have hl : xs.length = n := by simpa using ha.1
  obtain ⟨p, c, rfl, hca⟩ := own_read ha
  obtain ⟨q, d, rfl, hcb⟩ := own_read hb
  refine vc20 p n c q n d w _ (br_ndec (fun h => absurd rfl h) fun _ => ?_)
  refine ⟨fun u w' => ∃ k : Nat, k ≤ n ∧ u 5 = .int .i64 k ∧ Fm none' w w', fun u _ => n - (intOf (u 5)).toNat, ⟨0, by omega, rfl, Fm.refl _ _⟩, ?_⟩
  rintro u w3 ⟨k, hk, h5, hf⟩
  change u 5 = .int .i64 k at h5
  simp only [h5, isB_i, isTup_i, isInt_i, isSl_i, isPtr_i, isCs_i, isStr_i, isFn_i, isIf_i, rd_i, br_t, br_f, orO_s, orO_n, gd_t, bv_add, bv_sub, bv_mul, bv_eql, bv_neq, bv_lss, bv_leq, bv_gtr, bv_geq, bv_quo, bv_rem, bv_shl, bv_shr, bv_seq, bv_sne, bv_ptr, bv_if, bv_map, bv_nf, bv_bool, bv_sl, bv_fn, uv_not, uv_neg, eqV, nilV, Option.map_some, toN, Nat.mul_one, implies_true, true_and, and_true, and_self]
  refine br_dec (fun hkn => ?_) (fun _ => hf)
  have hx : xs[k]? = some xs[k] := List.getElem?_eq_getElem (by omega)
  obtain ⟨g, rfl, -, -, h1⟩ := hca k _ hx
  obtain ⟨g2, rfl, -, -, h2⟩ := hcb k _ hx
  obtain ⟨i, hi⟩ := hi xs[k] (List.getElem_mem _)
  rw [hi] at h1 h2
  have hf2 := hf.trans (Fm.drew w3)
  simp only [isB_i, isTup_i, isInt_i, isSl_i, isPtr_i, isCs_i, isStr_i, isFn_i, isIf_i, rd_i, br_t, br_f, orO_s, orO_n, gd_t, bv_add, bv_sub, bv_mul, bv_eql, bv_neq, bv_lss, bv_leq, bv_gtr, bv_geq, bv_quo, bv_rem, bv_shl, bv_shr, bv_seq, bv_sne, bv_ptr, bv_if, bv_map, bv_nf, bv_bool, bv_sl, bv_fn, uv_not, uv_neg, eqV, nilV, Option.map_some, toN, Nat.mul_one, implies_true, true_and, and_true, and_self]
  refine ⟨by omega, rd_of (hf2.cell h1 id) ⟨by omega, rd_of (hf2.cell h2 id) ?_⟩⟩
  simp only [isB_i, isTup_i, isInt_i, isSl_i, isPtr_i, isCs_i, isStr_i, isFn_i, isIf_i, rd_i, br_t, br_f, orO_s, orO_n, gd_t, bv_add, bv_sub, bv_mul, bv_eql, bv_neq, bv_lss, bv_leq, bv_gtr, bv_geq, bv_quo, bv_rem, bv_shl, bv_shr, bv_seq, bv_sne, bv_ptr, bv_if, bv_map, bv_nf, bv_bool, bv_sl, bv_fn, uv_not, uv_neg, eqV, nilV, Option.map_some, toN, Nat.mul_one, implies_true, true_and, and_true, and_self]
  refine br_ndec (fun h => by simp at h) (fun _ => ?_)
  rw [w64 (by omega)]
  refine ⟨⟨k + 1, by omega, rfl, hf2⟩, ?_⟩
  show n - ((k : Int) + 1).toNat < n - (k : Int).toNat; omega
end Go.Proofs.Ytmhbgaledhfpkaa
