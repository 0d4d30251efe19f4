/- RingStops comes to true and turns nothing that was there.  Conditions: the argument's cells hold numbers. -/
import Derived.Test.YtlhgibiffekpfaaG
import Derived.Test.YtlhgibiffekpfaaSeqT
import Derived.Test.YtlhgibiffekpfaaShown
import Derived.Test.YtlhgibiffekpfaaC8
namespace Go.Proofs.Ytlhgibiffekpfaa
set_option linter.unusedSimpArgs false
set_option linter.unusedVariables false
open Go Go.RowKit VC
/-- The last m of the first k. -/
def lastZ (ss : Nat → Int) (k m : Nat) : List Int := ((List.range k).map ss).drop (k - m)
theorem lastZ_length (ss : Nat → Int) (k m : Nat) : (lastZ ss k m).length = min k m := by simp [lastZ]; omega
theorem lastZ_succ (ss : Nat → Int) (k m : Nat) (hm : 1 ≤ m) : lastZ ss (k + 1) m = if k < m then lastZ ss k m ++ [ss k] else (lastZ ss k m).tail ++ [ss k] := by
  unfold lastZ
  split
  · rw [show k + 1 - m = 0 by omega, show k - m = 0 by omega]; simp [List.range_succ]
  · rw [List.range_succ, List.map_append, List.tail_drop, List.drop_append, List.length_map, List.length_range, show k + 1 - m - k = 0 by omega, show k + 1 - m = k - m + 1 by omega]
    rfl
theorem lastZ_get (ss : Nat → Int) (k m j : Nat) (hj : j < min k m) : (lastZ ss k m)[j]? = some (ss (k - m + j)) := by
  unfold lastZ
  rw [List.getElem?_drop, List.getElem?_map, List.getElem?_range (by omega)]
  rfl
/-- The first k, by their ids. -/
def firstT (ss : Nat → Int) (k : Nat) : List (Int × Int) := (List.range k).map fun (i : Nat) => ((i : Int) + 1, ss i)
theorem firstT_length (ss : Nat → Int) (k : Nat) : (firstT ss k).length = k := by simp [firstT]
theorem firstT_succ (ss : Nat → Int) (k : Nat) : firstT ss (k + 1) = firstT ss k ++ [((k : Int) + 1, ss k)] := by simp [firstT, List.range_succ]
theorem firstT_none (ss : Nat → Int) (k : Nat) : getM ((k : Int) + 1) (firstT ss k) = none := by
  rw [getM_mem]
  intro h
  simp only [firstT, List.map_map, List.mem_map, List.mem_range, Function.comp_apply] at h
  obtain ⟨i, hi, e⟩ := h
  omega
theorem firstT_sorted (ss : Nat → Int) (k : Nat) : ((firstT ss k).map (·.1)).Pairwise fun x y => x < y := by
  simp only [firstT, List.map_map]
  rw [List.pairwise_map]
  exact List.pairwise_lt_range.imp fun h => by simp only [Function.comp_apply]; omega
theorem firstT_get (ss : Nat → Int) (k j : Nat) (hj : j < k) : (firstT ss k)[j]? = some ((j : Int) + 1, ss j) := by
  unfold firstT
  rw [List.getElem?_map, List.getElem?_range hj]; rfl
theorem ne_obj' {w : World} {i j : Nat} {o o' : Obj} (h : w.heap[i]? = some o) (h' : w.heap[j]? = some o') (hne : o ≠ o') : i ≠ j := by
  rintro rfl; rw [h] at h'; exact hne (Option.some.inj h')
theorem prefix_snoc {α : Type} {l pre : List α} {y : α} : pre ++ [y] <+: l ↔ pre <+: l ∧ l[pre.length]? = some y := by
  constructor
  · rintro ⟨tl, rfl⟩
    exact ⟨⟨y :: tl, by simp⟩, by simp⟩
  · rintro ⟨⟨tl, rfl⟩, h⟩
    simp only [List.getElem?_append_right (Nat.le_refl _), Nat.sub_self] at h
    cases tl with
    | nil => simp at h
    | cons z tl => simp at h; subst h; exact ⟨tl, by simp⟩
/-- The law's things. -/
structure St10 (W : World) (R B M n0 n2 n4 : Nat) (p : Option Addr) (n cc : Nat) (nn : Int) (buf : List Int) (l : List (Int × Int)) (last : Int) (g : Option Nat) (w : World) : Prop where
  ring : RingG w R 20 buf g
  tab : TabAt (Value.int .i64) 85 w B M 50 last l
  hg : ∀ i, g = some i → W.heap.size ≤ i
  b0 : w.heap[n0]? = some (.cells #[.slice p n cc] 31 (0, 0))
  b2 : w.heap[n2]? = some (.cells #[.int .i64 nn] 3 (0, 0))
  b4 : w.heap[n4]? = some (.cells #[.bool false] 4 (0, 0))
  lo : W.heap.size ≤ R ∧ W.heap.size ≤ B ∧ W.heap.size ≤ M ∧ W.heap.size ≤ n0 ∧ W.heap.size ≤ n2 ∧ W.heap.size ≤ n4
  g2 : g ≠ some n2
  fm : Fm none' W w
variable {W w : World} {R B M n0 n2 n4 : Nat} {p : Option Addr} {n cc : Nat} {nn : Int} {buf : List Int} {l : List (Int × Int)} {last : Int} {g : Option Nat}
theorem St10.keep {w' : World} {S : Nat → Prop} {N : Nat} (h : St10 W R B M n0 n2 n4 p n cc nn buf l last g w) (f : Fm S w w') (hN : N ≤ w.heap.size) (hS : ∀ i, S i → N ≤ i) (hlt : R < N ∧ B < N ∧ M < N ∧ n0 < N ∧ n2 < N ∧ n4 < N ∧ ∀ i, g = some i → i < N) (hW : W.heap.size ≤ N) : St10 W R B M n0 n2 n4 p n cc nn buf l last g w' where
  ring := h.ring.keep f (fun e => by have := hS _ e; omega) fun i hi e => by have := hS _ e; have := hlt.2.2.2.2.2.2 i hi; omega
  tab := h.tab.keep f (fun e => by have := hS _ e; omega) (fun e => by have := hS _ e; omega)
  hg := h.hg
  b0 := f.keep h.b0 fun e => by have := hS _ e; omega
  b2 := f.keep h.b2 fun e => by have := hS _ e; omega
  b4 := f.keep h.b4 fun e => by have := hS _ e; omega
  lo := h.lo
  g2 := h.g2
  fm := h.fm.trans' f fun i hi e => by have := hS i e; omega
theorem St10.lt (h : St10 W R B M n0 n2 n4 p n cc nn buf l last g w) : R < w.heap.size ∧ B < w.heap.size ∧ M < w.heap.size ∧ n0 < w.heap.size ∧ n2 < w.heap.size ∧ n4 < w.heap.size ∧ ∀ i, g = some i → i < w.heap.size :=
  ⟨h.ring.lt.1, h.tab.lt.1, h.tab.lt.2, lt_of_blk h.b0, lt_of_blk h.b2, lt_of_blk h.b4, h.ring.lt.2⟩
theorem St10.quiet {w' : World} (h : St10 W R B M n0 n2 n4 p n cc nn buf l last g w) (f : Fm none' w w') : St10 W R B M n0 n2 n4 p n cc nn buf l last g w' :=
  h.keep f (Nat.le_refl _) (fun _ e => e.elim) h.lt h.fm.size
/-- Another thing is pushed, and added. -/
theorem St10.step {w1 w2 : World} {buf' : List Int} {l' : List (Int × Int)} {last' : Int} {g' : Option Nat} (h : St10 W R B M n0 n2 n4 p n cc nn buf l last g w) (f1 : Fm (fun i => i = R ∨ g = some i) w w1) (hr : RingG w1 R 20 buf' g') (hg' : g' = g ∨ ∃ b, g' = some b ∧ w.heap.size ≤ b) (f2 : Fm (fun i => i = B ∨ i = M) w1 w2) (ht : TabAt (Value.int .i64) 85 w2 B M 50 last' l') :
    St10 W R B M n0 n2 n4 p n cc nn buf' l' last' g' w2 := by
  obtain ⟨c, hR⟩ := h.ring.blocks.1
  have hlt := h.lt
  have hs := h.fm.size
  have hB : w.heap[B]? = _ := h.tab.1
  obtain ⟨es, clock, hM, -⟩ := h.tab.2
  have k : ∀ i o, w.heap[i]? = some o → (∀ c, o ≠ .cells c 90 (0, 0)) → (∀ c, o ≠ .cells c 3 (0, 0)) → ¬ (i = R ∨ g = some i) := fun i o hi h1 h2 => by
    rintro (e | e)
    · rw [e, hR] at hi; exact h1 c (Option.some.inj hi).symm
    · obtain ⟨-, c', hc⟩ := h.ring.blocks.2 i e
      rw [hc] at hi; exact h2 c' (Option.some.inj hi).symm
  have b0 := f1.keep h.b0 (k _ _ h.b0 (fun c e => by cases e) fun c e => by cases e)
  have b4 := f1.keep h.b4 (k _ _ h.b4 (fun c e => by cases e) fun c e => by cases e)
  have b2 := f1.keep h.b2 (by
    rintro (e | e)
    · have h2 := h.b2; rw [e, hR] at h2; cases h2
    · exact h.g2 e)
  have tB := f1.keep hB (k _ _ hB (fun c e => by cases e) fun c e => by cases e)
  have tM := f1.keep hM (k _ _ hM (fun c e => by cases e) fun c e => by cases e)
  obtain ⟨c1, hR1⟩ := hr.blocks.1
  refine ⟨hr.keep f2 (fun e => e.elim (ne_obj' hR1 tB fun e => by cases e) (ne_obj' hR1 tM fun e => by cases e)) fun i hi e => ?_, ht, fun i hi => ?_, f2.keep b0 fun e => e.elim (ne_obj' b0 tB fun e => by cases e) (ne_obj' b0 tM fun e => by cases e),
    f2.keep b2 fun e => e.elim (ne_obj' b2 tB fun e => by cases e) (ne_obj' b2 tM fun e => by cases e), f2.keep b4 fun e => e.elim (ne_obj' b4 tB fun e => by cases e) (ne_obj' b4 tM fun e => by cases e), h.lo, ?_, ?_⟩
  · obtain ⟨-, c', hc⟩ := hr.blocks.2 i hi
    exact e.elim (ne_obj' hc tB fun e => by cases e) (ne_obj' hc tM fun e => by cases e)
  · rcases hg' with rfl | ⟨b, rfl, hb⟩
    · exact h.hg i hi
    · cases hi; omega
  · rcases hg' with rfl | ⟨b, rfl, hb⟩
    · exact h.g2
    · intro e; cases e; omega
  · have hlo := h.lo
    refine (h.fm.trans' f1 fun i hi e => ?_).trans' f2 fun i hi e => ?_
    · rcases e with e | e
      · omega
      · have := h.hg i e; omega
    · rcases e with e | e <;> omega
theorem min3' {P : Program} {w : World} {ts : Array TypeId} {t : TypeId} {k : IntKind} {a b c : Int} {K : Value → World → Prop} (kk : K (.int k (min (min a b) c)) w) : runs P (Builtin.min_ ts t #[.int k a, .int k b, .int k c]) w K := by
  have h : ∀ a b : Int, (if b < a then b else a) = min a b := fun a b => by rw [Int.min_def]; split <;> split <;> omega
  refine ⟨_, _, ?_, kk⟩
  simp [Builtin.min_, Builtin.min2, h]
set_option maxHeartbeats 4000000 in
set_option maxRecDepth 20000 in
theorem stops_c (ap : Option Addr) (an ac : Nat) (b : Int) (ss : Nat → Int) (W : World) (hl : ∀ i, i < an → ∃ ad, ap = some ad ∧ W.cell? (ad.add i) = some (.int .i64 (ss i))) (hnc : an ≤ ac) :
    callV Try.prog 10 [.slice ap an ac, .int .i64 b] W fun v w' => v = .bool true ∧ Fm none' W w' := by
  refine vc10 ap an ac b W _ ?_
  refine allocC_of fun w1 hb1 hs1 hf1 => ?_
  refine allocC_of fun w3 hb3 hs3 hf3 => ?_
  refine allocC_of fun w5 hb5 hs5 hf5 => ?_
  refine (shown_c w5).mono ?_
  rintro _ w7 ⟨rfl, hf7⟩
  simp only [isB_i, isK_i, isP_i, isTup_i, isInt_i, isSl_i, isPtr_i, isCs_i, isStr_i, isFn_i, isIf_i, rd_i, br_t, br_f, orO_s, orO_n, gd_t, bv_add, bv_sub, bv_mul, bv_eql, bv_neq, bv_lss, bv_leq, bv_gtr, bv_geq, bv_quo, bv_rem, bv_shl, bv_shr, bv_seq, bv_sne, bv_ptr, bv_if, bv_map, bv_nf, bv_bool, bv_sl, bv_fn, uv_not, uv_neg, eqV, nilV, nc_ptr, nc_fn, nc_if, Option.map_some, toN, Nat.mul_one, implies_true, true_and, and_true, and_self]
  refine (new27_g 20 w7).mono ?_
  rintro _ w10 ⟨rfl, hr10, hf10⟩
  simp only [isB_i, isK_i, isP_i, isTup_i, isInt_i, isSl_i, isPtr_i, isCs_i, isStr_i, isFn_i, isIf_i, rd_i, br_t, br_f, orO_s, orO_n, gd_t, bv_add, bv_sub, bv_mul, bv_eql, bv_neq, bv_lss, bv_leq, bv_gtr, bv_geq, bv_quo, bv_rem, bv_shl, bv_shr, bv_seq, bv_sne, bv_ptr, bv_if, bv_map, bv_nf, bv_bool, bv_sl, bv_fn, uv_not, uv_neg, eqV, nilV, nc_ptr, nc_fn, nc_if, Option.map_some, toN, Nat.mul_one, implies_true, true_and, and_true, and_self]
  refine (new16_c 50 w10).mono ?_
  rintro _ w13 ⟨B, M, rfl, hB, hM, ht13, hf13⟩
  simp only [isB_i, isK_i, isP_i, isTup_i, isInt_i, isSl_i, isPtr_i, isCs_i, isStr_i, isFn_i, isIf_i, rd_i, br_t, br_f, orO_s, orO_n, gd_t, bv_add, bv_sub, bv_mul, bv_eql, bv_neq, bv_lss, bv_leq, bv_gtr, bv_geq, bv_quo, bv_rem, bv_shl, bv_shr, bv_seq, bv_sne, bv_ptr, bv_if, bv_map, bv_nf, bv_bool, bv_sl, bv_fn, uv_not, uv_neg, eqV, nilV, nc_ptr, nc_fn, nc_if, Option.map_some, toN, Nat.mul_one, implies_true, true_and, and_true, and_self, Option.isNone_some]
  have z7 := hf7.size
  have z10 := hf10.size
  have z13 := hf13.size
  obtain ⟨n, hn⟩ : ∃ n, n = min an 50 := ⟨_, rfl⟩
  have hn0 := hf13.keep (hf10.keep (hf7.keep (hf5.keep (hf3.keep hb1 id) id) id) id) id
  have hn2 := hf13.keep (hf10.keep (hf7.keep (hf5.keep hb3 id) id) id) id
  have hn4 := hf13.keep (hf10.keep (hf7.keep hb5 id) id) id
  have k0 : w13.cell? ⟨W.heap.size, 0, none⟩ = some (.slice ap an ac) := cellOf hn0 rfl
  simp only [k0, isB_i, isK_i, isP_i, isTup_i, isInt_i, isSl_i, isPtr_i, isCs_i, isStr_i, isFn_i, isIf_i, rd_i, br_t, br_f, orO_s, orO_n, gd_t, bv_add, bv_sub, bv_mul, bv_eql, bv_neq, bv_lss, bv_leq, bv_gtr, bv_geq, bv_quo, bv_rem, bv_shl, bv_shr, bv_seq, bv_sne, bv_ptr, bv_if, bv_map, bv_nf, bv_bool, bv_sl, bv_fn, uv_not, uv_neg, eqV, nilV, nc_ptr, nc_fn, nc_if, Option.map_some, toN, Nat.mul_one, implies_true, true_and, and_true, and_self]
  refine sliceAt_hi (by rw [row31]) row3 (by omega) (by omega) ?_
  simp only [isB_i, isK_i, isP_i, isTup_i, isInt_i, isSl_i, isPtr_i, isCs_i, isStr_i, isFn_i, isIf_i, rd_i, br_t, br_f, orO_s, orO_n, gd_t, bv_add, bv_sub, bv_mul, bv_eql, bv_neq, bv_lss, bv_leq, bv_gtr, bv_geq, bv_quo, bv_rem, bv_shl, bv_shr, bv_seq, bv_sne, bv_ptr, bv_if, bv_map, bv_nf, bv_bool, bv_sl, bv_fn, uv_not, uv_neg, eqV, nilV, nc_ptr, nc_fn, nc_if, Option.map_some, toN, Nat.mul_one, implies_true, true_and, and_true, and_self]
  rw [show (min (an : Int) 50).toNat = n by omega]
  have hlp : ∀ i, i < n → ∃ ad, (if ac = 0 then ap else ap.map (·.add 0)) = some ad ∧ W.cell? (ad.add i) = some (.int .i64 (ss i)) := by
    intro i hi
    obtain ⟨ad, rfl, h⟩ := hl i (by omega)
    refine ⟨ad.add 0, by rw [if_neg (by omega)]; rfl, ?_⟩
    rw [← h]
    simp [Addr.add]
  generalize (if ac = 0 then ap else ap.map (·.add 0)) = p at hlp ⊢
  refine stC_one hn0 (by simp) rfl fun w32 hw32 hf32 => ?_
  have hFW : Fm none' W w13 := ((((hf1.trans hf3).trans hf5).trans hf7).trans hf10).trans hf13
  have hst : St10 W w7.heap.size B M W.heap.size w1.heap.size w3.heap.size p n ac b (lastZ ss 0 20) (firstT ss 0) 0 none w32 :=
    { ring := (hr10.keep hf13 id fun _ e => by cases e).keep hf32 (by omega) fun _ e => by cases e
      tab := ht13.keep hf32 (by omega) (by omega)
      hg := fun _ e => by cases e
      b0 := hw32
      b2 := hf32.keep hn2 (by omega)
      b4 := hf32.keep hn4 (by omega)
      lo := by omega
      g2 := fun e => by cases e
      fm := hFW.trans' hf32 fun i hi e => by omega }
  have hn50 : n ≤ 50 := by omega
  generalize w7.heap.size = R at hst ⊢
  generalize hn0' : W.heap.size = n0 at hst ⊢
  generalize w1.heap.size = n2 at hst ⊢
  generalize w3.heap.size = n4 at hst ⊢
  clear hn0 hn2 hn4 k0 hw32 hf32 hr10 ht13 hb1 hb3 hb5
  refine ⟨fun _ w' => ∃ g, St10 W R B M n0 n2 n4 p n ac b (lastZ ss n 20) (firstT ss n) n g w', ?_, ?_⟩
  · refine ⟨fun u w' => ∃ (k : Nat) (g : Option Nat), k ≤ n ∧ u 8 = .int .i64 k ∧ St10 W R B M n0 n2 n4 p n ac b (lastZ ss k 20) (firstT ss k) k g w', fun u _ => n - (intOf (u 8)).toNat, ⟨0, none, by omega, rfl, hst⟩, ?_⟩
    rintro u w37 ⟨k, g, hk, h8, hst1⟩
    change u 8 = .int .i64 k at h8
    have c0 : w37.cell? ⟨n0, 0, none⟩ = some (.slice p n ac) := cellOf hst1.b0 rfl
    simp only [h8, c0, isB_i, isK_i, isP_i, isTup_i, isInt_i, isSl_i, isPtr_i, isCs_i, isStr_i, isFn_i, isIf_i, rd_i, br_t, br_f, orO_s, orO_n, gd_t, bv_add, bv_sub, bv_mul, bv_eql, bv_neq, bv_lss, bv_leq, bv_gtr, bv_geq, bv_quo, bv_rem, bv_shl, bv_shr, bv_seq, bv_sne, bv_ptr, bv_if, bv_map, bv_nf, bv_bool, bv_sl, bv_fn, uv_not, uv_neg, eqV, nilV, nc_ptr, nc_fn, nc_if, Option.map_some, toN, Nat.mul_one, implies_true, true_and, and_true, and_self]
    refine br_dec (fun hkn => ?_) (fun hkn => ?_)
    rotate_left
    · have e : k = n := by omega
      rw [e] at hst1
      exact ⟨g, hst1⟩
    obtain ⟨ad, rfl, hc⟩ := hlp k (by omega)
    have c1 := hst1.fm.cell hc id
    simp only [c1, isB_i, isK_i, isP_i, isTup_i, isInt_i, isSl_i, isPtr_i, isCs_i, isStr_i, isFn_i, isIf_i, rd_i, br_t, br_f, orO_s, orO_n, gd_t, bv_add, bv_sub, bv_mul, bv_eql, bv_neq, bv_lss, bv_leq, bv_gtr, bv_geq, bv_quo, bv_rem, bv_shl, bv_shr, bv_seq, bv_sne, bv_ptr, bv_if, bv_map, bv_nf, bv_bool, bv_sl, bv_fn, uv_not, uv_neg, eqV, nilV, nc_ptr, nc_fn, nc_if, Option.map_some, toN, Nat.mul_one, implies_true, true_and, and_true, and_self]
    refine ⟨by omega, ?_⟩
    have hlen := lastZ_length ss k 20
    refine (push28_g (ss k) hst1.ring (by omega) (by omega)).mono ?_
    rintro _ w53 ⟨-, ⟨g', hr53, hg'⟩, hf53⟩
    obtain ⟨cR, hR⟩ := hst1.ring.blocks.1
    have c0' : w53.cell? ⟨n0, 0, none⟩ = some (.slice (some ad) n ac) := hf53.cell c0 fun e => by
      rcases e with e | e
      · exact ne_obj' hst1.b0 hR (fun e => by cases e) e
      · obtain ⟨-, c', hc'⟩ := hst1.ring.blocks.2 _ e
        exact ne_obj' hst1.b0 hc' (fun e => by cases e) rfl
    have hFW1 : Fm none' W w53 := hst1.fm.trans' hf53 fun i hi e => by
      have := hst1.lo
      rcases e with e | e
      · omega
      · have := hst1.hg i e; omega
    have c1' := hFW1.cell hc id
    simp only [c0', c1', isB_i, isK_i, isP_i, isTup_i, isInt_i, isSl_i, isPtr_i, isCs_i, isStr_i, isFn_i, isIf_i, rd_i, br_t, br_f, orO_s, orO_n, gd_t, bv_add, bv_sub, bv_mul, bv_eql, bv_neq, bv_lss, bv_leq, bv_gtr, bv_geq, bv_quo, bv_rem, bv_shl, bv_shr, bv_seq, bv_sne, bv_ptr, bv_if, bv_map, bv_nf, bv_bool, bv_sl, bv_fn, uv_not, uv_neg, eqV, nilV, nc_ptr, nc_fn, nc_if, Option.map_some, toN, Nat.mul_one, implies_true, true_and, and_true, and_self]
    refine ⟨by omega, ?_⟩
    have ht53 : TabAt (Value.int .i64) 85 w53 B M 50 k (firstT ss k) := by
      obtain ⟨es, clock, hM, -⟩ := id hst1.tab.2
      have hB := hst1.tab.1
      refine hst1.tab.keep hf53 (fun e => ?_) fun e => ?_
      · rcases e with e | e
        · exact ne_obj' hB hR (fun e => by cases e) e
        · obtain ⟨-, c', hc'⟩ := hst1.ring.blocks.2 _ e
          exact ne_obj' hB hc' (fun e => by cases e) rfl
      · rcases e with e | e
        · exact ne_obj' hM hR (fun e => by cases e) e
        · obtain ⟨-, c', hc'⟩ := hst1.ring.blocks.2 _ e
          exact ne_obj' hM hc' (fun e => by cases e) rfl
    refine (add18_c (ss k) ht53 (by omega)).mono ?_
    rintro _ w63 ⟨-, ht63, hf63⟩
    rw [firstT_length, if_neg (by omega), if_neg (by omega), setM_none (firstT_none ss k), ← firstT_succ] at ht63
    have hbuf : (if ((lastZ ss k 20).length : Int) < 20 then lastZ ss k 20 ++ [ss k] else (lastZ ss k 20).tail ++ [ss k]) = lastZ ss (k + 1) 20 := by
      rw [lastZ_succ ss k 20 (by omega), hlen]
      by_cases h : k < 20
      · rw [if_pos (by omega), if_pos h]
      · rw [if_neg (by omega), if_neg h]
    rw [hbuf] at hr53
    rw [w64 (by omega)]
    refine ⟨⟨k + 1, g', by omega, rfl, hst1.step hf53 hr53 hg' hf63 (by rw [Int.natCast_add]; exact ht63)⟩, ?_⟩
    show n - ((k : Int) + 1).toNat < n - (k : Int).toNat; omega
  rintro u66 w67 ⟨g, hst2⟩
  clear hst
  have c2 : w67.cell? ⟨n2, 0, none⟩ = some (.int .i64 b) := cellOf hst2.b2 rfl
  simp only [c2, isB_i, isK_i, isP_i, isTup_i, isInt_i, isSl_i, isPtr_i, isCs_i, isStr_i, isFn_i, isIf_i, rd_i, br_t, br_f, orO_s, orO_n, gd_t, bv_add, bv_sub, bv_mul, bv_eql, bv_neq, bv_lss, bv_leq, bv_gtr, bv_geq, bv_quo, bv_rem, bv_shl, bv_shr, bv_seq, bv_sne, bv_ptr, bv_if, bv_map, bv_nf, bv_bool, bv_sl, bv_fn, uv_not, uv_neg, eqV, nilV, nc_ptr, nc_fn, nc_if, Option.map_some, toN, Nat.mul_one, implies_true, true_and, and_true, and_self]
  obtain ⟨nn, hnn, hnn1⟩ : ∃ nn : Nat, andI .i64 b 63 = nn ∧ nn ≤ 63 := by
    obtain ⟨h1, h2⟩ := andI_le b 63 (by omega)
    rw [show ((63 : Nat) : Int) = 63 from rfl] at h1 h2
    exact ⟨(andI .i64 b 63).toNat, by omega, by omega⟩
  rw [hnn]
  refine stC_one hst2.b2 (by simp) rfl fun w71 hw71 hf71 => ?_
  have hst3 : St10 W R B M n0 n2 n4 p n ac nn (lastZ ss n 20) (firstT ss n) n g w71 := by
    obtain ⟨cR, hR⟩ := hst2.ring.blocks.1
    obtain ⟨es, clock, hM, -⟩ := id hst2.tab.2
    exact { ring := hst2.ring.keep hf71 (ne_obj' hR hst2.b2 fun e => by cases e) fun i hi e => hst2.g2 (by rw [hi, show i = n2 from e])
            tab := hst2.tab.keep hf71 (ne_obj' hst2.tab.1 hst2.b2 fun e => by cases e) (ne_obj' hM hst2.b2 fun e => by cases e)
            hg := hst2.hg
            b0 := hf71.keep hst2.b0 (ne_obj' hst2.b0 hst2.b2 fun e => by cases e)
            b2 := hw71
            b4 := hf71.keep hst2.b4 (ne_obj' hst2.b4 hst2.b2 fun e => by cases e)
            lo := hst2.lo
            g2 := hst2.g2
            fm := hst2.fm.trans' hf71 fun i hi e => by have := hst2.lo; omega }
  clear hst2 c2 hf71 hw71
  refine allocC_of fun w73 hb73 hs73 hf73 => ?_
  refine stC_one hb73 (by simp) rfl fun w74 hb74 hf74 => ?_
  have hst4 := (hst3.quiet hf73).keep hf74 (N := w71.heap.size) (by omega) (fun i e => by omega) hst3.lt hst3.fm.size
  have hlt3 := hst3.lt
  have hW3 := hst3.fm.size
  generalize hn72 : w71.heap.size = n72 at hb74 hlt3 hW3 ⊢
  have hb74 : w74.heap[n72]? = some (.cells #[.int .i64 0] 3 (0, 0)) := hb74
  clear hb73 hf74 hf73 hst3
  obtain ⟨buf, hbuf⟩ : ∃ buf, buf = lastZ ss n 20 := ⟨_, rfl⟩
  have hbl : buf.length = min n 20 := by rw [hbuf, lastZ_length]
  rw [← hbuf] at hst4
  refine ⟨fun u w' => Fm (fun i => i = n72) w74 w' ∧ w'.heap[n72]? = some (.cells #[.int .i64 (min nn buf.length : Nat)] 3 (0, 0)) ∧ Marks w' W.heap.size (u 1000000) ∧ (∀ ds, u 1000000 = encD ds → ∀ d ∈ ds, w74.heap.size ≤ d), ?_, ?_⟩
  · refine (all32_g ⟨R, 0, none⟩ w74).mono ?_
    rintro _ w77 ⟨rfl, hb77, hs77, hf77⟩
    simp only [isB_i, isK_i, isP_i, isTup_i, isInt_i, isSl_i, isPtr_i, isCs_i, isStr_i, isFn_i, isIf_i, rd_i, br_t, br_f, orO_s, orO_n, gd_t, bv_add, bv_sub, bv_mul, bv_eql, bv_neq, bv_lss, bv_leq, bv_gtr, bv_geq, bv_quo, bv_rem, bv_shl, bv_shr, bv_seq, bv_sne, bv_ptr, bv_if, bv_map, bv_nf, bv_bool, bv_sl, bv_fn, uv_not, uv_neg, eqV, nilV, nc_ptr, nc_fn, nc_if, Option.map_some, toN, Nat.mul_one, implies_true, true_and, and_true, and_self, List.isEmpty_nil, Bool.and_true]
    refine rd_of rfl ?_
    refine rd_of rfl ?_
    have hst5 := hst4.quiet hf77
    have hb72 := hf77.keep hb74 id
    have hlt72 := lt_of_blk hb74
    have hW74 := hst4.fm.size
    have after : ∀ (D : Nat) (W1 : World) (t : Int), w77.heap.size ≤ D → Fm (fun i => i = n72) w77 W1 → W1.heap[n72]? = some (.cells #[.int .i64 t] 3 (0, 0)) → t = (min nn buf.length : Nat) → W1.heap[D]? = some (.deferred (some [])) →
        Fm (fun i => i = n72) w74 W1 ∧ W1.heap[n72]? = some (.cells #[.int .i64 (min nn buf.length : Nat)] 3 (0, 0)) ∧ Marks W1 W.heap.size (.tuple #[.pointer (some ⟨D, 0, none⟩)]) ∧ (∀ ds, Value.tuple #[.pointer (some ⟨D, 0, none⟩)] = encD ds → ∀ d ∈ ds, w74.heap.size ≤ d) := by
      rintro D W1 t hD h1 h2 rfl hd
      refine ⟨hf77.none.trans h1, h2, ⟨[D], rfl, by simp, fun d hd' => ?_⟩, fun ds he d hd' => ?_⟩
      · simp at hd'; subst hd'; exact ⟨by omega, hd⟩
      · have := congrArg dfOf he
        rw [dfOf_encD, show Value.tuple #[.pointer (some ⟨D, 0, none⟩)] = encD [D] from rfl, dfOf_encD] at this
        rw [← this] at hd'
        simp at hd'; omega
    refine ⟨ent42, Int, fun y _ => .int .i64 y, KpC w77.heap.size fun i => i = n72, fun ys => ys = buf, fun ys => ys <+: buf, buf.length,
      fun pre W' => Fm (fun i => i = n72) w77 W' ∧ W'.heap[n72]? = some (.cells #[.int .i64 pre.length] 3 (0, 0)) ∧ pre <+: buf ∧ pre.length ≤ nn,
      fun c ys W' => (c = .ret ∧ ¬ ys <+: buf) ∨ (c = .exit 2 ∧ Fm (fun i => i = n72) w77 W' ∧ W'.heap[n72]? = some (.cells #[.int .i64 nn] 3 (0, 0)) ∧ nn + 1 = ys.length),
      seq42 hb77 hst5.ring (by omega) (by omega) (by omega) (fun i hi => by have := hlt3.2.2.2.2.2.2 i hi; omega), KpC.t, KpC.b, ?_, ?_, ?_, ?_, ?_, ?_, ?_⟩
    · rintro pre W1 W' row ⟨h1, h2, h3⟩ hg hr
      exact ⟨h1.row_below hg hr (Nat.le_refl _), (row_fm hg).keep h2 (row_ncell hr h2), h3⟩
    · rintro c pre W1 W' row (h | ⟨h0, h1, h2, h3⟩) hg hr
      · exact .inl h
      · exact .inr ⟨h0, h1.row_below hg hr (Nat.le_refl _), (row_fm hg).keep h2 (row_ncell hr h2), h3⟩
    · exact ⟨Fm.refl _ _, hb72, List.nil_prefix, by simp⟩
    · rintro pre y W1 ⟨h1, h2, h3, h4⟩ hlt
      have hst6 := hst5.keep h1 (N := n72) (by omega) (fun i e => by omega) hlt3 hW3
      have c72 : W1.cell? ⟨n72, 0, none⟩ = some (.int .i64 pre.length) := cellOf h2 rfl
      have c2 : W1.cell? ⟨n2, 0, none⟩ = some (.int .i64 nn) := cellOf hst6.b2 rfl
      have c0 : W1.cell? ⟨n0, 0, none⟩ = some (.slice p n ac) := cellOf hst6.b0 rfl
      simp only [c72, c2, c0, isB_i, isK_i, isP_i, isTup_i, isInt_i, isSl_i, isPtr_i, isCs_i, isStr_i, isFn_i, isIf_i, rd_i, br_t, br_f, orO_s, orO_n, gd_t, bv_add, bv_sub, bv_mul, bv_eql, bv_neq, bv_lss, bv_leq, bv_gtr, bv_geq, bv_quo, bv_rem, bv_shl, bv_shr, bv_seq, bv_sne, bv_ptr, bv_if, bv_map, bv_nf, bv_bool, bv_sl, bv_fn, uv_not, uv_neg, eqV, nilV, nc_ptr, nc_fn, nc_if, Option.map_some, toN, Nat.mul_one, implies_true, true_and, and_true, and_self]
      refine br_dec (fun he => ?_) (fun he => ?_)
      · refine ⟨keeps_of (Fm.refl none' _) fun i e => e.elim, rfl, .inr ⟨h1, ?_, ?_⟩⟩
        · rw [h2, he]
        · simp; omega
      · rw [show IntKind.i64.wrap ((n : Int) - 20) = (n : Int) - 20 from w64 (by omega), w64 (by omega), show max 0 ((n : Int) - 20) + (pre.length : Int) = ((n - 20 + pre.length : Nat) : Int) by omega]
        have hg : buf[pre.length]? = some (ss (n - 20 + pre.length)) := by rw [hbuf]; exact lastZ_get ss n 20 _ (by omega)
        obtain ⟨ad, rfl, hc⟩ := hlp (n - 20 + pre.length) (by omega)
        have c1 := hst6.fm.cell hc id
        simp only [c1, isB_i, isK_i, isP_i, isTup_i, isInt_i, isSl_i, isPtr_i, isCs_i, isStr_i, isFn_i, isIf_i, rd_i, br_t, br_f, orO_s, orO_n, gd_t, bv_add, bv_sub, bv_mul, bv_eql, bv_neq, bv_lss, bv_leq, bv_gtr, bv_geq, bv_quo, bv_rem, bv_shl, bv_shr, bv_seq, bv_sne, bv_ptr, bv_if, bv_map, bv_nf, bv_bool, bv_sl, bv_fn, uv_not, uv_neg, eqV, nilV, nc_ptr, nc_fn, nc_if, Option.map_some, toN, Nat.mul_one, implies_true, true_and, and_true, and_self]
        refine ⟨by omega, ?_⟩
        refine br_ndec (fun hne => ?_) (fun heq => ?_)
        · refine stC_one hst6.b4 (by simp) rfl fun w105 hw105 hf105 => ⟨keeps_of hf105 fun i e => cells_at e hst6.b4, .inl ?_⟩
          rw [prefix_snoc, hg]
          exact fun h => hne (Option.some.inj h.2).symm
        · rw [w64 (by omega)]
          refine stC_one h2 (by simp) rfl fun w108 hw108 hf108 => ?_
          refine ⟨keeps_of hf108 fun i e => cells_at e h2, KpC.fm hf108 fun i _ e => e, h1.trans hf108, ?_, ?_, ?_⟩
          · rw [hw108]; simp
          · rw [prefix_snoc, hg, heq]; exact ⟨h3, rfl⟩
          · simp; omega
    · rintro D ys W1 hD rfl ⟨h1, h2, -, h4⟩ hd
      exact after D W1 _ hD h1 h2 (by omega) hd
    · rintro D pre W1 hD hp (⟨-, h⟩ | ⟨h, -⟩) hd
      · exact (h hp).elim
      · cases h
    · rintro y hy D pre W1 hD hp hx hd
      simp at hy
      subst hy
      rcases hx with ⟨h, -⟩ | ⟨-, h1, h2, h3⟩
      · cases h
      · exact after D W1 _ hD h1 h2 (by have := hp.length_le; omega) hd
  rintro u116 w117 ⟨hf117, hb117, hm117, hmd⟩
  change Marks w117 W.heap.size (u116 1000000) at hm117
  change ∀ ds, u116 1000000 = encD ds → ∀ d ∈ ds, w74.heap.size ≤ d at hmd
  generalize u116 1000000 = mk at hm117 hmd ⊢
  have hlt72 := lt_of_blk hb74
  have hst7 := hst4.keep hf117 (N := n72) (by omega) (fun i e => by omega) hlt3 hW3
  refine allocC_of fun w120 hb120 hs120 hf120 => ?_
  refine stC_one hb120 (by simp) rfl fun w121 hb121 hf121 => ?_
  have hlt7 := hst7.lt
  have hst8 := (hst7.quiet hf120).keep hf121 (N := w117.heap.size) (by omega) (fun i e => by omega) hlt7 hst7.fm.size
  have hb72' := hf121.keep (hf120.keep hb117 id) (by have := lt_of_blk hb117; omega)
  have hm121 : Marks w121 W.heap.size mk := (hm117.keep hf120 fun _ _ _ h => h).keep hf121 fun i _ hd e => by have := lt_of_blk hd; rw [show i = w117.heap.size from e, hb120] at hd; cases hd
  have hW7 := hst7.fm.size
  generalize hn119 : w117.heap.size = n119 at hb121 hlt7 hW7 ⊢
  have hb121 : w121.heap[n119]? = some (.cells #[.int .i64 0] 3 (0, 0)) := hb121
  have hne : n72 ≠ n119 := by have := lt_of_blk hb117; omega
  clear hb120 hf121 hf120
  have hfl := firstT_length ss n
  have hsort : sortT 0 (firstT ss n) = firstT ss n := sortT_sorted (firstT_sorted ss n)
  have hlt119 := lt_of_blk hb121
  refine ⟨fun u w' => Fm (fun i => i = n119) w121 w' ∧ w'.heap[n119]? = some (.cells #[.int .i64 (min nn n : Nat)] 3 (0, 0)) ∧ Marks w' W.heap.size (u 1000000), ?_, ?_⟩
  · refine (all37_c ⟨B, 0, none⟩ w121).mono ?_
    rintro _ w124 ⟨rfl, hb124, hs124, hf124⟩
    simp only [isB_i, isK_i, isP_i, isTup_i, isInt_i, isSl_i, isPtr_i, isCs_i, isStr_i, isFn_i, isIf_i, rd_i, br_t, br_f, orO_s, orO_n, gd_t, bv_add, bv_sub, bv_mul, bv_eql, bv_neq, bv_lss, bv_leq, bv_gtr, bv_geq, bv_quo, bv_rem, bv_shl, bv_shr, bv_seq, bv_sne, bv_ptr, bv_if, bv_map, bv_nf, bv_bool, bv_sl, bv_fn, uv_not, uv_neg, eqV, nilV, nc_ptr, nc_fn, nc_if, Option.map_some, toN, Nat.mul_one, implies_true, true_and, and_true, and_self, List.isEmpty_nil, Bool.and_true]
    refine rd_of rfl ?_
    refine rd_of rfl ?_
    have hst9 := hst8.quiet hf124
    have hb119 := hf124.keep hb121 id
    have hm124 := hm121.keep hf124 fun _ _ _ h => h
    have after : ∀ (D : Nat) (W1 : World) (t : Int), w124.heap.size ≤ D → Fm (fun i => i = n119) w124 W1 → W1.heap[n119]? = some (.cells #[.int .i64 t] 3 (0, 0)) → t = (min nn n : Nat) → W1.heap[D]? = some (.deferred (some [])) →
        Fm (fun i => i = n119) w121 W1 ∧ W1.heap[n119]? = some (.cells #[.int .i64 (min nn n : Nat)] 3 (0, 0)) ∧ Marks W1 W.heap.size (pushD D mk) := by
      rintro D W1 t hD h1 h2 rfl hd
      refine ⟨hf124.none.trans h1, h2, (hm124.keep h1 fun i _ hd' e => ?_).push (by have := hst9.fm.size; omega) hd fun ds he hm => ?_⟩
      · rw [show i = n119 from e, hb119] at hd'; cases hd'
      · have := hm124.lt ds he D hm; omega
    refine ⟨ent46, Int × Int, enc46, KpC w124.heap.size fun i => i = n119, fun ys => ys = sortT 0 (firstT ss n), fun ys => ys <+: sortT 0 (firstT ss n), (firstT ss n).length,
      fun pre W' => Fm (fun i => i = n119) w124 W' ∧ W'.heap[n119]? = some (.cells #[.int .i64 pre.length] 3 (0, 0)) ∧ pre <+: firstT ss n ∧ pre.length ≤ nn,
      fun c ys W' => (c = .ret ∧ ¬ ys <+: firstT ss n) ∨ (c = .exit 4 ∧ Fm (fun i => i = n119) w124 W' ∧ W'.heap[n119]? = some (.cells #[.int .i64 nn] 3 (0, 0)) ∧ nn + 1 = ys.length),
      seq46 hb124 hst9.tab (by omega) (by omega) (by omega) (by omega) (fun i e => by omega), KpC.t, KpC.b, ?_, ?_, ?_, ?_, ?_, ?_, ?_⟩
    · rintro pre W1 W' row ⟨h1, h2, h3⟩ hg hr
      exact ⟨h1.row_below hg hr (Nat.le_refl _), (row_fm hg).keep h2 (row_ncell hr h2), h3⟩
    · rintro c pre W1 W' row (h | ⟨h0, h1, h2, h3⟩) hg hr
      · exact .inl h
      · exact .inr ⟨h0, h1.row_below hg hr (Nat.le_refl _), (row_fm hg).keep h2 (row_ncell hr h2), h3⟩
    · exact ⟨Fm.refl _ _, hb119, List.nil_prefix, by simp⟩
    · rintro pre y W1 ⟨h1, h2, h3, h4⟩ hlt
      have hst6 := hst9.keep h1 (N := n119) (by omega) (fun i e => by omega) hlt7 hW7
      have c119 : W1.cell? ⟨n119, 0, none⟩ = some (.int .i64 pre.length) := cellOf h2 rfl
      have c2 : W1.cell? ⟨n2, 0, none⟩ = some (.int .i64 nn) := cellOf hst6.b2 rfl
      have c0 : W1.cell? ⟨n0, 0, none⟩ = some (.slice p n ac) := cellOf hst6.b0 rfl
      simp only [c119, c2, c0, enc46, isB_i, isK_i, isP_i, isTup_i, isInt_i, isSl_i, isPtr_i, isCs_i, isStr_i, isFn_i, isIf_i, rd_i, br_t, br_f, orO_s, orO_n, gd_t, bv_add, bv_sub, bv_mul, bv_eql, bv_neq, bv_lss, bv_leq, bv_gtr, bv_geq, bv_quo, bv_rem, bv_shl, bv_shr, bv_seq, bv_sne, bv_ptr, bv_if, bv_map, bv_nf, bv_bool, bv_sl, bv_fn, uv_not, uv_neg, eqV, nilV, nc_ptr, nc_fn, nc_if, Option.map_some, toN, Nat.mul_one, implies_true, true_and, and_true, and_self]
      refine br_dec (fun he => ?_) (fun he => ?_)
      · refine ⟨keeps_of (Fm.refl none' _) fun i e => e.elim, rfl, .inr ⟨h1, ?_, ?_⟩⟩
        · rw [h2, he]
        · simp; omega
      · rw [w64 (by omega)]
        have hg : (firstT ss n)[pre.length]? = some ((pre.length : Int) + 1, ss pre.length) := firstT_get ss n _ (by omega)
        have hret : ∀ (h : ¬ (y = ((pre.length : Int) + 1, ss pre.length))), ¬ pre ++ [y] <+: firstT ss n := fun h => by
          rw [prefix_snoc, hg]
          exact fun h' => h (Option.some.inj h'.2).symm
        refine br_ndec (fun hne => ?_) (fun heq => ?_)
        · refine stC_one hst6.b4 (by simp) rfl fun w105 hw105 hf105 => ⟨keeps_of hf105 fun i e => cells_at e hst6.b4, .inl (hret fun h => hne (by rw [h]))⟩
        obtain ⟨ad, rfl, hc⟩ := hlp pre.length (by omega)
        have c1 := hst6.fm.cell hc id
        simp only [c1, isB_i, isK_i, isP_i, isTup_i, isInt_i, isSl_i, isPtr_i, isCs_i, isStr_i, isFn_i, isIf_i, rd_i, br_t, br_f, orO_s, orO_n, gd_t, bv_add, bv_sub, bv_mul, bv_eql, bv_neq, bv_lss, bv_leq, bv_gtr, bv_geq, bv_quo, bv_rem, bv_shl, bv_shr, bv_seq, bv_sne, bv_ptr, bv_if, bv_map, bv_nf, bv_bool, bv_sl, bv_fn, uv_not, uv_neg, eqV, nilV, nc_ptr, nc_fn, nc_if, Option.map_some, toN, Nat.mul_one, implies_true, true_and, and_true, and_self]
        refine ⟨by omega, ?_⟩
        refine br_ndec (fun hne => ?_) (fun heq2 => ?_)
        · refine stC_one hst6.b4 (by simp) rfl fun w105 hw105 hf105 => ⟨keeps_of hf105 fun i e => cells_at e hst6.b4, .inl (hret fun h => hne (by rw [h]))⟩
        · refine stC_one h2 (by simp) rfl fun w108 hw108 hf108 => ?_
          refine ⟨keeps_of hf108 fun i e => cells_at e h2, KpC.fm hf108 fun i _ e => e, h1.trans hf108, ?_, ?_, ?_⟩
          · rw [hw108]; simp
          · rw [prefix_snoc, hg]; exact ⟨h3, by congr 1; exact (Prod.ext heq heq2).symm⟩
          · simp; omega
    · rintro D ys W1 hD rfl ⟨h1, h2, -, h4⟩ hd
      rw [hsort, hfl] at h2 h4
      exact after D W1 _ hD h1 h2 (by omega) hd
    · rintro D pre W1 hD hp (⟨-, h⟩ | ⟨h, -⟩) hd
      · rw [hsort] at hp; exact (h hp).elim
      · cases h
    · rintro y hy D pre W1 hD hp hx hd
      simp at hy
      subst hy
      rcases hx with ⟨h, -⟩ | ⟨-, h1, h2, h3⟩
      · cases h
      · refine after D W1 _ hD h1 h2 ?_ hd
        have := hp.length_le
        rw [hsort, hfl] at this
        omega
  rintro u163 w164 ⟨hf164, hb164, hm164⟩
  change Marks w164 W.heap.size (u163 1000000) at hm164
  have hst9 := hst8.keep hf164 (N := n119) (by omega) (fun i e => by omega) hlt7 hW7
  have c119 : w164.cell? ⟨n119, 0, none⟩ = some (.int .i64 (min nn n : Nat)) := cellOf hb164 rfl
  have c72 : w164.cell? ⟨n72, 0, none⟩ = some (.int .i64 (min nn buf.length : Nat)) := cellOf (hf164.keep hb72' hne) rfl
  have c2 : w164.cell? ⟨n2, 0, none⟩ = some (.int .i64 nn) := cellOf hst9.b2 rfl
  have c0 : w164.cell? ⟨n0, 0, none⟩ = some (.slice p n ac) := cellOf hst9.b0 rfl
  simp only [c119, c72, c2, c0, isB_i, isK_i, isP_i, isTup_i, isInt_i, isSl_i, isPtr_i, isCs_i, isStr_i, isFn_i, isIf_i, rd_i, br_t, br_f, orO_s, orO_n, gd_t, bv_add, bv_sub, bv_mul, bv_eql, bv_neq, bv_lss, bv_leq, bv_gtr, bv_geq, bv_quo, bv_rem, bv_shl, bv_shr, bv_seq, bv_sne, bv_ptr, bv_if, bv_map, bv_nf, bv_bool, bv_sl, bv_fn, uv_not, uv_neg, eqV, nilV, nc_ptr, nc_fn, nc_if, Option.map_some, toN, Nat.mul_one, implies_true, true_and, and_true, and_self]
  refine min3' ?_
  simp only [c119, c72, c2, c0, isB_i, isK_i, isP_i, isTup_i, isInt_i, isSl_i, isPtr_i, isCs_i, isStr_i, isFn_i, isIf_i, rd_i, br_t, br_f, orO_s, orO_n, gd_t, bv_add, bv_sub, bv_mul, bv_eql, bv_neq, bv_lss, bv_leq, bv_gtr, bv_geq, bv_quo, bv_rem, bv_shl, bv_shr, bv_seq, bv_sne, bv_ptr, bv_if, bv_map, bv_nf, bv_bool, bv_sl, bv_fn, uv_not, uv_neg, eqV, nilV, nc_ptr, nc_fn, nc_if, Option.map_some, toN, Nat.mul_one, implies_true, true_and, and_true, and_self]
  refine br_dec (fun _ => ?_) (fun h => absurd (by rw [hbl]; omega) h)
  rw [decide_eq_true (show (((min nn n : Nat) : Int) = min (nn : Int) (n : Int)) by omega)]
  refine stC_one hst9.b4 (by simp) rfl fun w185 hw185 hf185 => ?_
  have hlo := hst9.lo
  refine (hm164.keep hf185 fun i _ hd e => by rw [show i = n4 from e, hst9.b4] at hd; cases hd).leave fun w186 hf186 => ?_
  refine rd_of (v := .bool true) (cellOf (hf186.keep hw185 fun e => by rw [hw185] at e; cases e.2) rfl) ⟨rfl, ?_⟩
  exact (hst9.fm.trans' hf185 fun i hi e => by omega).trans' hf186 fun i hi e => by omega
end Go.Proofs.Ytlhgibiffekpfaa
