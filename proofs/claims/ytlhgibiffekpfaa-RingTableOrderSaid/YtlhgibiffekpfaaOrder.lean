/- RingTableOrder comes to true and turns nothing that was there.  Conditions: the arguments' cells hold numbers. -/
import Derived.Test.YtlhgibiffekpfaaStops
import Derived.Test.YtlhgibiffekpfaaC9
namespace Go.Proofs.Ytlhgibiffekpfaa
set_option linter.unusedSimpArgs false
set_option linter.unusedVariables false
open Go Go.RowKit VC
theorem delM_filter {k : Int} : ∀ {l : List (Int × Int)}, (l.map (·.1)).Nodup → delM k l = l.filter fun p => decide (p.1 ≠ k) := by
  intro l
  induction l with
  | nil => intro _; rfl
  | cons p l ih =>
    intro hn
    simp only [List.map_cons, List.nodup_cons] at hn
    simp only [delM]
    by_cases h : k = p.1
    · rw [if_pos h, List.filter_cons_of_neg (by simp [h])]
      rw [List.filter_eq_self.2 fun q hq => ?_]
      simp only [ne_eq, decide_eq_true_eq]
      rintro e
      exact hn.1 (by rw [← h, ← e]; exact List.mem_map_of_mem hq)
    · rw [if_neg h, List.filter_cons_of_pos (by simp; exact fun e => h e.symm), ih hn.2]
/-- What is left. -/
def leftT (ss : Nat → Int) (n : Nat) (G : List Bool) : List (Int × Int) := (firstT ss n).filter fun p => !(G.getD p.1.toNat false)
theorem leftT_sorted (ss : Nat → Int) (n : Nat) (G : List Bool) : ((leftT ss n G).map (·.1)).Pairwise fun x y => x < y :=
  (firstT_sorted ss n).sublist (List.filter_sublist.map _)
theorem leftT_del (ss : Nat → Int) (n : Nat) (G : List Bool) (d : Nat) (hd : d < G.length) : delM (d : Int) (leftT ss n G) = leftT ss n (G.set d true) := by
  rw [delM_filter ((leftT_sorted ss n G).imp fun h => by omega)]
  unfold leftT
  rw [List.filter_filter]
  refine List.filter_congr fun p hp => ?_
  simp only [firstT, List.mem_map, List.mem_range] at hp
  obtain ⟨i, hi, rfl⟩ := hp
  simp only [List.getD_eq_getElem?_getD, List.getElem?_set]
  have e : ((i : Int) + 1).toNat = i + 1 := by omega
  simp only [e]
  by_cases h : d = i + 1
  · subst h; simp [hd]
  · simp only [if_neg h]
    have : ((i : Int) + 1 ≠ (d : Int)) := by omega
    simp [this]
theorem leftT_mem {ss : Nat → Int} {n : Nat} {G : List Bool} {y : Int × Int} (h : y ∈ leftT ss n G) : ∃ i, i < n ∧ y = ((i : Int) + 1, ss i) ∧ G.getD (i + 1) false = false := by
  simp only [leftT, List.mem_filter, firstT, List.mem_map, List.mem_range] at h
  obtain ⟨⟨i, hi, rfl⟩, h⟩ := h
  refine ⟨i, hi, rfl, ?_⟩
  simpa [show ((i : Int) + 1).toNat = i + 1 by omega] using h
theorem leftT_none (ss : Nat → Int) (n N : Nat) : leftT ss n (List.replicate N false) = firstT ss n := by
  unfold leftT
  refine List.filter_eq_self.2 fun q hq => ?_
  rw [List.getD_eq_getElem?_getD, List.getElem?_replicate]
  split <;> rfl
/-- How many are left of the first i. -/
def cntT (G : List Bool) (i : Nat) : Nat := ((List.range i).filter fun j => !(G.getD (j + 1) false)).length
theorem cntT_succ (G : List Bool) (i : Nat) : cntT G (i + 1) = cntT G i + (if G.getD (i + 1) false then 0 else 1) := by
  unfold cntT
  rw [List.range_succ, List.filter_append, List.length_append]
  cases h : G.getD (i + 1) false <;> rw [List.getD_eq_getElem?_getD] at h <;> simp [List.filter_cons, h]
theorem leftT_length (ss : Nat → Int) (n : Nat) (G : List Bool) : (leftT ss n G).length = cntT G n := by
  unfold leftT firstT cntT
  rw [List.filter_map, List.length_map]
  congr 1
theorem cntT_le (G : List Bool) (i : Nat) : cntT G i ≤ i := by
  unfold cntT
  have := List.length_filter_le (fun j => !(G.getD (j + 1) false)) (List.range i)
  simpa using this
/-- The law's things. -/
structure St8 (W : World) (B M n0 n2 : Nat) (p : Option Addr) (n cc : Nat) (l : List (Int × Int)) (last : Int) (w : World) : Prop where
  tab : TabAt (Value.int .i64) 85 w B M 60 last l
  b0 : w.heap[n0]? = some (.cells #[.slice p n cc] 31 (0, 0))
  b2 : w.heap[n2]? = some (.cells #[.bool false] 4 (0, 0))
  lo : W.heap.size ≤ B ∧ W.heap.size ≤ M ∧ W.heap.size ≤ n0 ∧ W.heap.size ≤ n2
  fm : Fm none' W w
variable {W w : World} {B M n0 n2 : Nat} {p : Option Addr} {n cc : Nat} {l : List (Int × Int)} {last : Int}
theorem St8.keep {w' : World} {S : Nat → Prop} {N : Nat} (h : St8 W B M n0 n2 p n cc l last w) (f : Fm S w w') (hS : ∀ i, S i → N ≤ i) (hlt : B < N ∧ M < N ∧ n0 < N ∧ n2 < N) (hW : W.heap.size ≤ N) : St8 W B M n0 n2 p n cc l last w' where
  tab := h.tab.keep f (fun e => by have := hS _ e; omega) (fun e => by have := hS _ e; omega)
  b0 := f.keep h.b0 fun e => by have := hS _ e; omega
  b2 := f.keep h.b2 fun e => by have := hS _ e; omega
  lo := h.lo
  fm := h.fm.trans' f fun i hi e => by have := hS i e; omega
theorem St8.lt (h : St8 W B M n0 n2 p n cc l last w) : B < w.heap.size ∧ M < w.heap.size ∧ n0 < w.heap.size ∧ n2 < w.heap.size := ⟨h.tab.lt.1, h.tab.lt.2, lt_of_blk h.b0, lt_of_blk h.b2⟩
theorem St8.quiet {w' : World} (h : St8 W B M n0 n2 p n cc l last w) (f : Fm none' w w') : St8 W B M n0 n2 p n cc l last w' := h.keep f (fun _ e => e.elim) h.lt h.fm.size
/-- The table turns. -/
theorem St8.step {w' : World} {l' : List (Int × Int)} {last' : Int} (h : St8 W B M n0 n2 p n cc l last w) (f : Fm (fun i => i = B ∨ i = M) w w') (ht : TabAt (Value.int .i64) 85 w' B M 60 last' l') : St8 W B M n0 n2 p n cc l' last' w' := by
  have hB := h.tab.1
  obtain ⟨es, clock, hM, -⟩ := id h.tab.2
  have hlo := h.lo
  exact ⟨ht, f.keep h.b0 fun e => e.elim (ne_obj' h.b0 hB fun e => by cases e) (ne_obj' h.b0 hM fun e => by cases e), f.keep h.b2 fun e => e.elim (ne_obj' h.b2 hB fun e => by cases e) (ne_obj' h.b2 hM fun e => by cases e), h.lo, h.fm.trans' f fun i hi e => by omega⟩
/-- What is gone. -/
def GoneAt (w : World) (n57 gb : Nat) (G : List Bool) : Prop := w.heap[n57]? = some (.cells #[.slice (some ⟨gb, 0, none⟩) 300 300] 64 (0, 0)) ∧ w.ownsRow 0 4 1 (.slice (some ⟨gb, 0, none⟩) 300 300) 300 (G.map Value.bool)
theorem GoneAt.keep {w' : World} {n57 gb : Nat} {G : List Bool} {S : Nat → Prop} (h : GoneAt w n57 gb G) (f : Fm S w w') (h1 : ¬ S n57) (h2 : ¬ S gb) : GoneAt w' n57 gb G := ⟨f.keep h.1 h1, f.owns h.2 fun i hi => by cases hi; exact h2⟩
theorem GoneAt.lt {n57 gb : Nat} {G : List Bool} (h : GoneAt w n57 gb G) : n57 < w.heap.size ∧ gb < w.heap.size ∧ G.length = 300 := by
  refine ⟨lt_of_blk h.1, ?_, by have := h.2.1; simpa using this⟩
  obtain ⟨_, cur, hc⟩ := own_block h.2 (i := gb) rfl
  exact lt_of_blk hc
theorem GoneAt.read {n57 gb : Nat} {G : List Bool} (h : GoneAt w n57 gb G) : w.cell? ⟨n57, 0, none⟩ = some (.slice (some ⟨gb, 0, none⟩) 300 300) ∧ ∀ j, j < 300 → w.cell? ⟨gb, j, none⟩ = some (.bool (G.getD j false)) := by
  refine ⟨cellOf h.1 rfl, fun j hj => ?_⟩
  obtain ⟨p', c', hv, hrd⟩ := own_read h.2
  cases hv
  have hl := h.lt.2.2
  obtain ⟨g, e, -, -, hc⟩ := hrd j (.bool (G.getD j false)) (by rw [List.getElem?_map, List.getD_eq_getElem?_getD, List.getElem?_eq_getElem (by omega)]; rfl)
  cases e
  rw [addr_add, Nat.zero_add] at hc
  exact hc
set_option maxHeartbeats 4000000 in
set_option maxRecDepth 20000 in
theorem order_c (ap : Option Addr) (an ac : Nat) (bp : Option Addr) (bn bc : Nat) (ss ds : Nat → Int) (W : World) (hl : ∀ i, i < an → ∃ ad, ap = some ad ∧ W.cell? (ad.add i) = some (.int .i64 (ss i))) (hnc : an ≤ ac)
    (hd : ∀ i, i < bn → ∃ ad, bp = some ad ∧ W.cell? (ad.add i) = some (.int .u8 (ds i))) (hdr : ∀ i, i < bn → 0 ≤ ds i ∧ ds i < 256) :
    callV Try.prog 8 [.slice ap an ac, .slice bp bn bc] W fun v w' => v = .bool true ∧ Fm none' W w' := by
  refine vc8 ap an ac bp bn bc W _ ?_
  refine allocC_of fun w1 hb1 hs1 hf1 => ?_
  refine allocC_of fun w3 hb3 hs3 hf3 => ?_
  refine (shown_c w3).mono ?_
  rintro _ w5 ⟨rfl, hf5⟩
  simp only [isB_i, isK_i, isP_i, isTup_i, isInt_i, isSl_i, isPtr_i, isCs_i, isStr_i, isFn_i, isIf_i, rd_i, br_t, br_f, orO_s, orO_n, gd_t, bv_add, bv_sub, bv_mul, bv_eql, bv_neq, bv_lss, bv_leq, bv_gtr, bv_geq, bv_quo, bv_rem, bv_shl, bv_shr, bv_seq, bv_sne, bv_ptr, bv_if, bv_map, bv_nf, bv_bool, bv_sl, bv_fn, uv_not, uv_neg, eqV, nilV, nc_ptr, nc_fn, nc_if, Option.map_some, toN, Nat.mul_one, implies_true, true_and, and_true, and_self]
  refine (new16_c 60 w5).mono ?_
  rintro _ w8 ⟨B, M, rfl, hB, hM, ht8, hf8⟩
  simp only [isB_i, isK_i, isP_i, isTup_i, isInt_i, isSl_i, isPtr_i, isCs_i, isStr_i, isFn_i, isIf_i, rd_i, br_t, br_f, orO_s, orO_n, gd_t, bv_add, bv_sub, bv_mul, bv_eql, bv_neq, bv_lss, bv_leq, bv_gtr, bv_geq, bv_quo, bv_rem, bv_shl, bv_shr, bv_seq, bv_sne, bv_ptr, bv_if, bv_map, bv_nf, bv_bool, bv_sl, bv_fn, uv_not, uv_neg, eqV, nilV, nc_ptr, nc_fn, nc_if, Option.map_some, toN, Nat.mul_one, implies_true, true_and, and_true, and_self, Option.isNone_some]
  have z5 := hf5.size
  have z8 := hf8.size
  obtain ⟨n, hn⟩ : ∃ n, n = min an 50 := ⟨_, rfl⟩
  have hn0 := hf8.keep (hf5.keep (hf3.keep hb1 id) id) id
  have hn2 := hf8.keep (hf5.keep hb3 id) id
  have k0 : w8.cell? ⟨W.heap.size, 0, none⟩ = some (.slice ap an ac) := cellOf hn0 rfl
  simp only [k0, isB_i, isK_i, isP_i, isTup_i, isInt_i, isSl_i, isPtr_i, isCs_i, isStr_i, isFn_i, isIf_i, rd_i, br_t, br_f, orO_s, orO_n, gd_t, bv_add, bv_sub, bv_mul, bv_eql, bv_neq, bv_lss, bv_leq, bv_gtr, bv_geq, bv_quo, bv_rem, bv_shl, bv_shr, bv_seq, bv_sne, bv_ptr, bv_if, bv_map, bv_nf, bv_bool, bv_sl, bv_fn, uv_not, uv_neg, eqV, nilV, nc_ptr, nc_fn, nc_if, Option.map_some, toN, Nat.mul_one, implies_true, true_and, and_true, and_self]
  refine sliceAt_hi (by rw [row31]) row3 (by omega) (by omega) ?_
  simp only [isB_i, isK_i, isP_i, isTup_i, isInt_i, isSl_i, isPtr_i, isCs_i, isStr_i, isFn_i, isIf_i, rd_i, br_t, br_f, orO_s, orO_n, gd_t, bv_add, bv_sub, bv_mul, bv_eql, bv_neq, bv_lss, bv_leq, bv_gtr, bv_geq, bv_quo, bv_rem, bv_shl, bv_shr, bv_seq, bv_sne, bv_ptr, bv_if, bv_map, bv_nf, bv_bool, bv_sl, bv_fn, uv_not, uv_neg, eqV, nilV, nc_ptr, nc_fn, nc_if, Option.map_some, toN, Nat.mul_one, implies_true, true_and, and_true, and_self]
  rw [show (min (an : Int) 50).toNat = n by omega]
  have hlp : ∀ i, i < n → ∃ ad, (if ac = 0 then ap else ap.map (·.add 0)) = some ad ∧ W.cell? (ad.add i) = some (.int .i64 (ss i)) := by
    intro i hi
    obtain ⟨ad, rfl, h⟩ := hl i (by omega)
    refine ⟨ad.add 0, by rw [if_neg (by omega)]; rfl, ?_⟩
    rw [← h]
    simp [Addr.add]
  generalize (if ac = 0 then ap else ap.map (·.add 0)) = p at hlp ⊢
  refine stC_one hn0 (by simp) rfl fun w25 hw25 hf25 => ?_
  have hFW : Fm none' W w8 := ((hf1.trans hf3).trans hf5).trans hf8
  have hst : St8 W B M W.heap.size w1.heap.size p n ac (firstT ss 0) 0 w25 :=
    { tab := ht8.keep hf25 (by omega) (by omega)
      b0 := hw25
      b2 := hf25.keep hn2 (by omega)
      lo := by omega
      fm := hFW.trans' hf25 fun i hi e => by omega }
  have hn50 : n ≤ 50 := by omega
  generalize hn0' : W.heap.size = n0 at hst ⊢
  generalize w1.heap.size = n2 at hst ⊢
  clear hn0 hn2 k0 hw25 hf25 ht8 hb1 hb3
  refine ⟨fun _ w' => St8 W B M n0 n2 p n ac (firstT ss n) n w', ?_, ?_⟩
  · refine ⟨fun u w' => ∃ k : Nat, k ≤ n ∧ u 7 = .int .i64 k ∧ St8 W B M n0 n2 p n ac (firstT ss k) k w', fun u _ => n - (intOf (u 7)).toNat, ⟨0, by omega, rfl, hst⟩, ?_⟩
    rintro u w30 ⟨k, hk, h7, hst1⟩
    change u 7 = .int .i64 k at h7
    have c0 : w30.cell? ⟨n0, 0, none⟩ = some (.slice p n ac) := cellOf hst1.b0 rfl
    simp only [h7, c0, isB_i, isK_i, isP_i, isTup_i, isInt_i, isSl_i, isPtr_i, isCs_i, isStr_i, isFn_i, isIf_i, rd_i, br_t, br_f, orO_s, orO_n, gd_t, bv_add, bv_sub, bv_mul, bv_eql, bv_neq, bv_lss, bv_leq, bv_gtr, bv_geq, bv_quo, bv_rem, bv_shl, bv_shr, bv_seq, bv_sne, bv_ptr, bv_if, bv_map, bv_nf, bv_bool, bv_sl, bv_fn, uv_not, uv_neg, eqV, nilV, nc_ptr, nc_fn, nc_if, Option.map_some, toN, Nat.mul_one, implies_true, true_and, and_true, and_self]
    refine br_dec (fun hkn => ?_) (fun hkn => ?_)
    rotate_left
    · have e : k = n := by omega
      rw [e] at hst1; exact hst1
    obtain ⟨ad, rfl, hc⟩ := hlp k (by omega)
    have c1 := hst1.fm.cell hc id
    simp only [c1, isB_i, isK_i, isP_i, isTup_i, isInt_i, isSl_i, isPtr_i, isCs_i, isStr_i, isFn_i, isIf_i, rd_i, br_t, br_f, orO_s, orO_n, gd_t, bv_add, bv_sub, bv_mul, bv_eql, bv_neq, bv_lss, bv_leq, bv_gtr, bv_geq, bv_quo, bv_rem, bv_shl, bv_shr, bv_seq, bv_sne, bv_ptr, bv_if, bv_map, bv_nf, bv_bool, bv_sl, bv_fn, uv_not, uv_neg, eqV, nilV, nc_ptr, nc_fn, nc_if, Option.map_some, toN, Nat.mul_one, implies_true, true_and, and_true, and_self]
    refine ⟨by omega, ?_⟩
    refine (add18_c (ss k) hst1.tab (by omega)).mono ?_
    rintro _ w46 ⟨-, ht46, hf46⟩
    rw [firstT_length, if_neg (by omega), if_neg (by omega), setM_none (firstT_none ss k), ← firstT_succ] at ht46
    rw [w64 (by omega)]
    refine ⟨⟨k + 1, by omega, rfl, hst1.step hf46 (by rw [Int.natCast_add]; exact ht46)⟩, ?_⟩
    show n - ((k : Int) + 1).toNat < n - (k : Int).toNat; omega
  rintro u49 w50 hst2
  clear hst
  refine make_g (n := 300) (base := 0) (by rw [row64]) row4 rfl (by omega) (by unfold maxLen; omega) (Nat.zero_le _) fun w53 ho53 hf53 => ?_
  simp only [isB_i, isK_i, isP_i, isTup_i, isInt_i, isSl_i, isPtr_i, isCs_i, isStr_i, isFn_i, isIf_i, rd_i, br_t, br_f, orO_s, orO_n, gd_t, bv_add, bv_sub, bv_mul, bv_eql, bv_neq, bv_lss, bv_leq, bv_gtr, bv_geq, bv_quo, bv_rem, bv_shl, bv_shr, bv_seq, bv_sne, bv_ptr, bv_if, bv_map, bv_nf, bv_bool, bv_sl, bv_fn, uv_not, uv_neg, eqV, nilV, nc_ptr, nc_fn, nc_if, Option.map_some, toN, Nat.mul_one, implies_true, true_and, and_true, and_self]
  refine allocC_of fun w58 hb58 hs58 hf58 => ?_
  refine stC_one hb58 (by simp) rfl fun w59 hb59 hf59 => ?_
  have hst3 := (hst2.quiet hf53).quiet hf58
  have hlt3 := (hst2.quiet hf53).lt
  have hlt2 := hst2.lt
  have hW2 := hst2.fm.size
  obtain ⟨_, cg, hcg⟩ := own_block ho53 (i := w50.heap.size) rfl
  have hgb := lt_of_blk hcg
  have hs53 := hf53.size
  have hst4 := hst3.keep hf59 (N := w53.heap.size) (fun i e => by omega) hlt3 (by omega)
  have hG0 : GoneAt w59 w53.heap.size w50.heap.size (List.replicate 300 false) := ⟨hb59, by
    rw [List.map_replicate]
    exact hf59.owns (hf58.owns ho53 fun _ _ => id) fun i hi e => by cases hi; exact absurd (show w50.heap.size = w53.heap.size from e) (by omega)⟩
  generalize hgbe : w50.heap.size = gb at hG0 hlt2 hW2 ⊢
  generalize hn57 : w53.heap.size = n57 at hG0 hgb hlt3 ⊢
  clear hb58 hb59 hf58 hf59 hst3 ho53 hcg
  have hr0 : leftT ss n (List.replicate 300 false) = firstT ss n := leftT_none ss n 300
  refine ⟨fun _ w' => ∃ G, GoneAt w' n57 gb G ∧ St8 W B M n0 n2 p n ac (leftT ss n G) n w', ?_, ?_⟩
  · refine ⟨fun u w' => ∃ (k : Nat) (G : List Bool), k ≤ bn ∧ k ≤ 100 ∧ u 9 = .int .i64 k ∧ GoneAt w' n57 gb G ∧ St8 W B M n0 n2 p n ac (leftT ss n G) n w', fun u _ => bn - (intOf (u 9)).toNat, ⟨0, _, by omega, by omega, rfl, hG0, by rw [hr0]; exact hst4⟩, ?_⟩
    rintro u w64' ⟨k, G, hk, hk100, h9, hG, hst5⟩
    change u 9 = .int .i64 k at h9
    simp only [h9, isB_i, isK_i, isP_i, isTup_i, isInt_i, isSl_i, isPtr_i, isCs_i, isStr_i, isFn_i, isIf_i, rd_i, br_t, br_f, orO_s, orO_n, gd_t, bv_add, bv_sub, bv_mul, bv_eql, bv_neq, bv_lss, bv_leq, bv_gtr, bv_geq, bv_quo, bv_rem, bv_shl, bv_shr, bv_seq, bv_sne, bv_ptr, bv_if, bv_map, bv_nf, bv_bool, bv_sl, bv_fn, uv_not, uv_neg, eqV, nilV, nc_ptr, nc_fn, nc_if, Option.map_some, toN, Nat.mul_one, implies_true, true_and, and_true, and_self]
    refine br_dec (fun hkn => ?_) (fun _ => ⟨G, hG, hst5⟩)
    refine br_dec (fun hkl => ?_) (fun _ => ⟨G, hG, hst5⟩)
    obtain ⟨ad, rfl, hc⟩ := hd k (by omega)
    obtain ⟨d, hde⟩ : ∃ d : Nat, ds k = d := ⟨(ds k).toNat, by have := hdr k (by omega); omega⟩
    have hd256 := hdr k (by omega)
    rw [hde] at hc hd256
    have c1 := hst5.fm.cell hc id
    simp only [c1, isB_i, isK_i, isP_i, isTup_i, isInt_i, isSl_i, isPtr_i, isCs_i, isStr_i, isFn_i, isIf_i, rd_i, br_t, br_f, orO_s, orO_n, gd_t, bv_add, bv_sub, bv_mul, bv_eql, bv_neq, bv_lss, bv_leq, bv_gtr, bv_geq, bv_quo, bv_rem, bv_shl, bv_shr, bv_seq, bv_sne, bv_ptr, bv_if, bv_map, bv_nf, bv_bool, bv_sl, bv_fn, uv_not, uv_neg, eqV, nilV, nc_ptr, nc_fn, nc_if, Option.map_some, toN, Nat.mul_one, implies_true, true_and, and_true, and_self]
    refine ⟨by omega, ?_⟩
    rw [w64 (by omega)]
    refine (drop20_c d hst5.tab).mono ?_
    rintro _ w73 ⟨rfl, ht73, hf73⟩
    simp only [isB_i, isK_i, isP_i, isTup_i, isInt_i, isSl_i, isPtr_i, isCs_i, isStr_i, isFn_i, isIf_i, rd_i, br_t, br_f, orO_s, orO_n, gd_t, bv_add, bv_sub, bv_mul, bv_eql, bv_neq, bv_lss, bv_leq, bv_gtr, bv_geq, bv_quo, bv_rem, bv_shl, bv_shr, bv_seq, bv_sne, bv_ptr, bv_if, bv_map, bv_nf, bv_bool, bv_sl, bv_fn, uv_not, uv_neg, eqV, nilV, nc_ptr, nc_fn, nc_if, Option.map_some, toN, Nat.mul_one, implies_true, true_and, and_true, and_self]
    have hst6 := hst5.step (hf73.mono fun i _ e => .inr e) ht73
    obtain ⟨es, clock, hM5, -⟩ := id hst5.tab.2
    have hG5 : GoneAt w73 n57 gb G := hG.keep hf73 (ne_obj' hG.1 hM5 fun e => by cases e) fun e => by
      obtain ⟨_, cur, hcc⟩ := own_block hG.2 (i := gb) rfl
      exact ne_obj' hcc hM5 (fun e => by cases e) e
    obtain ⟨g1, g2⟩ := hG5.read
    have c1' := hst6.fm.cell hc id
    refine ⟨fun w' => w' = w73.drew, rfl, ?_⟩
    simp only [forall_eq, cell_drew, g1, c1', isB_i, isK_i, isP_i, isTup_i, isInt_i, isSl_i, isPtr_i, isCs_i, isStr_i, isFn_i, isIf_i, rd_i, br_t, br_f, orO_s, orO_n, gd_t, bv_add, bv_sub, bv_mul, bv_eql, bv_neq, bv_lss, bv_leq, bv_gtr, bv_geq, bv_quo, bv_rem, bv_shl, bv_shr, bv_seq, bv_sne, bv_ptr, bv_if, bv_map, bv_nf, bv_bool, bv_sl, bv_fn, uv_not, uv_neg, eqV, nilV, nc_ptr, nc_fn, nc_if, Option.map_some, toN, Nat.mul_one, implies_true, true_and, and_true, and_self]
    refine ⟨by omega, by omega, by omega, ?_⟩
    obtain ⟨g, c, hge, hset⟩ := own_set (KK := fun w98 => _) (x := .bool true) ((Fm.drew w73).owns hG5.2 fun _ _ => id) (j := d) (by omega) rfl
    cases hge
    refine hset fun w98 ho98 hf98 => ?_
    have hb57 := hf98.keep (w := w73.drew) hG5.1 (by have := lt_of_blk hG5.1; have := hG5.lt; intro e; rw [e] at hG5; obtain ⟨_, cur, hcc⟩ := own_block hG5.2 (i := gb) rfl; rw [hG5.1] at hcc; cases hcc)
    have hG6 : GoneAt w98 n57 gb (G.set d true) := ⟨hb57, by rw [List.map_set]; exact ho98⟩
    rw [w64 (by omega)]
    refine ⟨⟨k + 1, G.set d true, by omega, by omega, rfl, hG6, ?_⟩, ?_⟩
    · rw [← leftT_del ss n G d (by have := hG.lt; omega)]
      exact hst6.keep ((Fm.drew w73).none.trans hf98) (N := gb) (fun i e => by omega) hlt2 hW2
    · show bn - ((k : Int) + 1).toNat < bn - (k : Int).toNat; omega
  rintro u101 w102 ⟨G, hG, hst5⟩
  have hlt5 := hst5.lt
  have hGl := hG.lt
  have hsorted := leftT_sorted ss n G
  have hsort : sortT 0 (leftT ss n G) = leftT ss n G := sortT_sorted hsorted
  have hlen := leftT_length ss n G
  have hcn := cntT_le G n
  refine ⟨fun u w' => ∃ k : Nat, k ≤ 2 ∧ u 10 = .int .i64 k ∧ GoneAt w' n57 gb G ∧ St8 W B M n0 n2 p n ac (leftT ss n G) n w' ∧ Marks w' W.heap.size (u 1000000), fun u _ => 2 - (intOf (u 10)).toNat, ⟨0, by omega, rfl, hG, hst5, Marks.nil _ _⟩, ?_⟩
  clear hlt5 hGl
  rintro u w107 ⟨k, hk2, h10, hG, hst5, hmk⟩
  change u 10 = .int .i64 k at h10
  change Marks w107 W.heap.size (u 1000000) at hmk
  generalize u 1000000 = mk at hmk ⊢
  simp only [h10, isB_i, isK_i, isP_i, isTup_i, isInt_i, isSl_i, isPtr_i, isCs_i, isStr_i, isFn_i, isIf_i, rd_i, br_t, br_f, orO_s, orO_n, gd_t, bv_add, bv_sub, bv_mul, bv_eql, bv_neq, bv_lss, bv_leq, bv_gtr, bv_geq, bv_quo, bv_rem, bv_shl, bv_shr, bv_seq, bv_sne, bv_ptr, bv_if, bv_map, bv_nf, bv_bool, bv_sl, bv_fn, uv_not, uv_neg, eqV, nilV, nc_ptr, nc_fn, nc_if, Option.map_some, toN, Nat.mul_one, implies_true, true_and, and_true, and_self]
  have hlo := hst5.lo
  refine br_dec (fun hk => ?_) (fun hk => ?_)
  rotate_left
  · refine stC_one hst5.b2 (by simp) rfl fun w203 hw203 hf203 => ?_
    refine (hmk.keep hf203 fun i _ hd e => by rw [show i = n2 from e, hst5.b2] at hd; cases hd).leave fun w204 hf204 => ?_
    refine rd_of (v := .bool true) (cellOf (hf204.keep hw203 fun e => by rw [hw203] at e; cases e.2) rfl) ⟨rfl, ?_⟩
    exact (hst5.fm.trans' hf203 fun i hi e => by omega).trans' hf204 fun i hi e => by omega
  refine allocC_of fun w111 hb111 hs111 hf111 => ?_
  refine stC_one hb111 (by simp) rfl fun w112 hb112 hf112 => ?_
  refine allocC_of fun w114 hb114 hs114 hf114 => ?_
  refine stC_one hb114 (by simp) rfl fun w115 hb115 hf115 => ?_
  have hW5 := hst5.fm.size
  have hlt5 := hst5.lt
  have hGl := hG.lt
  have s112 := hf112.size
  have hF : Fm (fun i => i = w107.heap.size ∨ i = w112.heap.size) w107 w115 := (hf111.none.trans (hf112.mono fun i _ e => .inl e)).trans (hf114.none.trans (hf115.mono fun i _ e => .inr e))
  have hst6 := hst5.keep hF (N := w107.heap.size) (fun i e => by omega) hlt5 hW5
  have hG6 := hG.keep hF (by omega) (by omega)
  have hmk6 : Marks w115 W.heap.size mk := hmk.keep hF fun i _ hd e => by have := lt_of_blk hd; omega
  have hb110 : w115.heap[w107.heap.size]? = some (.cells #[.int .i64 0] 3 (0, 0)) := hf115.keep (hf114.keep hb112 id) (by omega)
  have hb113 : w115.heap[w112.heap.size]? = some (.cells #[.int .i64 0] 3 (0, 0)) := hb115
  have hne : w107.heap.size ≠ w112.heap.size := by omega
  generalize hn110 : w107.heap.size = n110 at hb110 hne hlt5 hGl hW5 ⊢
  have hn113 : n110 < w112.heap.size := by omega
  generalize w112.heap.size = n113 at hb113 hne hn113 ⊢
  clear hb111 hb112 hb114 hb115 hf111 hf112 hf114 hf115 hF
  have hlt110 := lt_of_blk hb110
  have hlt113 := lt_of_blk hb113
  refine ⟨fun u' w' => Fm (fun i => i = n110 ∨ i = n113) w115 w' ∧ w'.heap[n113]? = some (.cells #[.int .i64 (cntT G n)] 3 (0, 0)) ∧ Marks w' W.heap.size (u' 1000000), ?_, ?_⟩
  · refine (all37_c ⟨B, 0, none⟩ w115).mono ?_
    rintro _ w118 ⟨rfl, hb118, hs118, hf118⟩
    simp only [isB_i, isK_i, isP_i, isTup_i, isInt_i, isSl_i, isPtr_i, isCs_i, isStr_i, isFn_i, isIf_i, rd_i, br_t, br_f, orO_s, orO_n, gd_t, bv_add, bv_sub, bv_mul, bv_eql, bv_neq, bv_lss, bv_leq, bv_gtr, bv_geq, bv_quo, bv_rem, bv_shl, bv_shr, bv_seq, bv_sne, bv_ptr, bv_if, bv_map, bv_nf, bv_bool, bv_sl, bv_fn, uv_not, uv_neg, eqV, nilV, nc_ptr, nc_fn, nc_if, Option.map_some, toN, Nat.mul_one, implies_true, true_and, and_true, and_self, List.isEmpty_nil, Bool.and_true]
    refine rd_of rfl ?_
    refine rd_of rfl ?_
    have hst7 := hst6.quiet hf118
    have hG7 := hG6.keep hf118 id id
    have hb110' := hf118.keep hb110 id
    have hb113' := hf118.keep hb113 id
    refine ⟨ent46, Int × Int, enc46, KpC w118.heap.size fun i => i = n110 ∨ i = n113, fun ys => ys = sortT 0 (leftT ss n G), fun ys => ys <+: sortT 0 (leftT ss n G), (leftT ss n G).length,
      fun pre W' => Fm (fun i => i = n110 ∨ i = n113) w118 W' ∧ W'.heap[n113]? = some (.cells #[.int .i64 pre.length] 3 (0, 0)) ∧ ∃ v : Int, W'.heap[n110]? = some (.cells #[.int .i64 v] 3 (0, 0)) ∧ 0 ≤ v ∧ (v = 0 ∨ ∃ x, pre.getLast? = some (v, x)),
      fun c ys W' => ¬ ys <+: leftT ss n G,
      seq46 hb118 hst7.tab (by omega) (by omega) (by omega) (by omega) (fun i e => by omega), KpC.t, KpC.b, ?_, fun _ _ _ _ _ h _ _ => h, ?_, ?_, ?_, ?_, fun _ h => by cases h⟩
    · rintro pre W1 W' row ⟨h1, h2, v, h3, h4⟩ hg hr
      exact ⟨h1.row_below hg hr (Nat.le_refl _), (row_fm hg).keep h2 (row_ncell hr h2), v, (row_fm hg).keep h3 (row_ncell hr h3), h4⟩
    · exact ⟨Fm.refl _ _, hb113', 0, hb110', by omega, .inl rfl⟩
    · rintro pre y W1 ⟨h1, h2, v, h3, hv0, hv⟩ hlt
      have hst8 := hst7.keep h1 (N := n110) (fun i e => by omega) hlt5 hW5
      obtain ⟨g1, g2⟩ := (hG7.keep h1 (by omega) (by omega)).read
      have c110 : W1.cell? ⟨n110, 0, none⟩ = some (.int .i64 v) := cellOf h3 rfl
      have c0 : W1.cell? ⟨n0, 0, none⟩ = some (.slice p n ac) := cellOf hst8.b0 rfl
      have hret : ∀ K : Prop, K → (¬ pre ++ [y] <+: leftT ss n G) → stC W1 ⟨n2, 0, none⟩ [.bool false] fun w129 => KeepsFrom w118.heap.size W1 w129 ∧ ¬ pre ++ [y] <+: leftT ss n G := fun K _ hK =>
        stC_one hst8.b2 (by simp) rfl fun w129 hw129 hf129 => ⟨keeps_of hf129 fun i e => cells_at e hst8.b2, hK⟩
      -- the right next one passes
      have hok : pre ++ [y] <+: leftT ss n G → v < y.1 ∧ y.1 ≤ n ∧ G.getD y.1.toNat false = false ∧ ∃ i : Nat, i < n ∧ y.1 = (i : Int) + 1 ∧ y.2 = ss i := fun h => by
        obtain ⟨hp, hy⟩ := prefix_snoc.1 h
        obtain ⟨i, hi, rfl, hg⟩ := leftT_mem (List.mem_of_getElem? hy)
        refine ⟨?_, by simp; omega, by simpa [show ((i : Int) + 1).toNat = i + 1 by omega] using hg, i, hi, rfl, rfl⟩
        rcases hv with rfl | ⟨x, hx⟩
        · show (0 : Int) < (i : Int) + 1; omega
        · obtain ⟨tl, htl⟩ := h
          have hs := hsorted
          rw [← htl, List.map_append, List.map_append] at hs
          have h3 := (List.pairwise_append.1 hs).1
          have h4 := (List.pairwise_append.1 h3).2.2 v (by
            have := List.mem_of_getLast? hx
            exact List.mem_map.2 ⟨_, this, rfl⟩) ((i : Int) + 1) (by simp)
          exact h4
      simp only [c110, c0, g1, enc46, isB_i, isK_i, isP_i, isTup_i, isInt_i, isSl_i, isPtr_i, isCs_i, isStr_i, isFn_i, isIf_i, rd_i, br_t, br_f, orO_s, orO_n, gd_t, bv_add, bv_sub, bv_mul, bv_eql, bv_neq, bv_lss, bv_leq, bv_gtr, bv_geq, bv_quo, bv_rem, bv_shl, bv_shr, bv_seq, bv_sne, bv_ptr, bv_if, bv_map, bv_nf, bv_bool, bv_sl, bv_fn, uv_not, uv_neg, eqV, nilV, nc_ptr, nc_fn, nc_if, Option.map_some, toN, Nat.mul_one, implies_true, true_and, and_true, and_self]
      refine br_dec (fun h => ?_) (fun h => ?_)
      · exact hret _ trivial fun hK => by have := hok hK; omega
      refine br_dec (fun h' => ?_) (fun h' => ?_)
      · exact hret _ trivial fun hK => by have := hok hK; omega
      obtain ⟨i, hi⟩ : ∃ i : Nat, y.1 = (i : Int) + 1 := ⟨(y.1 - 1).toNat, by omega⟩
      have g3 := g2 (i + 1) (by omega)
      rw [hi, show ((i : Int) + 1) = ((i + 1 : Nat) : Int) by omega]
      simp only [addr_add, Nat.zero_add, g3, isB_i, isK_i, isP_i, isTup_i, isInt_i, isSl_i, isPtr_i, isCs_i, isStr_i, isFn_i, isIf_i, rd_i, br_t, br_f, orO_s, orO_n, gd_t, bv_add, bv_sub, bv_mul, bv_eql, bv_neq, bv_lss, bv_leq, bv_gtr, bv_geq, bv_quo, bv_rem, bv_shl, bv_shr, bv_seq, bv_sne, bv_ptr, bv_if, bv_map, bv_nf, bv_bool, bv_sl, bv_fn, uv_not, uv_neg, eqV, nilV, nc_ptr, nc_fn, nc_if, Option.map_some, toN, Nat.mul_one, implies_true, true_and, and_true, and_self]
      refine ⟨by omega, ?_⟩
      cases hgg : G.getD (i + 1) false with
      | true =>
        simp only [isB_i, isK_i, isP_i, isTup_i, isInt_i, isSl_i, isPtr_i, isCs_i, isStr_i, isFn_i, isIf_i, rd_i, br_t, br_f, orO_s, orO_n, gd_t, bv_add, bv_sub, bv_mul, bv_eql, bv_neq, bv_lss, bv_leq, bv_gtr, bv_geq, bv_quo, bv_rem, bv_shl, bv_shr, bv_seq, bv_sne, bv_ptr, bv_if, bv_map, bv_nf, bv_bool, bv_sl, bv_fn, uv_not, uv_neg, eqV, nilV, nc_ptr, nc_fn, nc_if, Option.map_some, toN, Nat.mul_one, implies_true, true_and, and_true, and_self]
        refine hret _ trivial fun hK => ?_
        have := (hok hK).2.2.1
        rw [hi, show ((i : Int) + 1).toNat = i + 1 by omega, hgg] at this; cases this
      | false =>
        obtain ⟨ad, rfl, hc⟩ := hlp i (by omega)
        have c1 := hst8.fm.cell hc id
        simp only [isB_i, isK_i, isP_i, isTup_i, isInt_i, isSl_i, isPtr_i, isCs_i, isStr_i, isFn_i, isIf_i, rd_i, br_t, br_f, orO_s, orO_n, gd_t, bv_add, bv_sub, bv_mul, bv_eql, bv_neq, bv_lss, bv_leq, bv_gtr, bv_geq, bv_quo, bv_rem, bv_shl, bv_shr, bv_seq, bv_sne, bv_ptr, bv_if, bv_map, bv_nf, bv_bool, bv_sl, bv_fn, uv_not, uv_neg, eqV, nilV, nc_ptr, nc_fn, nc_if, Option.map_some, toN, Nat.mul_one, implies_true, true_and, and_true, and_self]
        rw [w64 (by omega), show ((i + 1 : Nat) : Int) - 1 = (i : Int) by omega]
        simp only [c1, isB_i, isK_i, isP_i, isTup_i, isInt_i, isSl_i, isPtr_i, isCs_i, isStr_i, isFn_i, isIf_i, rd_i, br_t, br_f, orO_s, orO_n, gd_t, bv_add, bv_sub, bv_mul, bv_eql, bv_neq, bv_lss, bv_leq, bv_gtr, bv_geq, bv_quo, bv_rem, bv_shl, bv_shr, bv_seq, bv_sne, bv_ptr, bv_if, bv_map, bv_nf, bv_bool, bv_sl, bv_fn, uv_not, uv_neg, eqV, nilV, nc_ptr, nc_fn, nc_if, Option.map_some, toN, Nat.mul_one, implies_true, true_and, and_true, and_self]
        refine ⟨by omega, ?_⟩
        refine br_ndec (fun hne => ?_) (fun heq => ?_)
        · refine hret _ trivial fun hK => ?_
          obtain ⟨j, -, e1, e2⟩ := (hok hK).2.2.2
          exact hne (by rw [e2]; congr 1; omega)
        · refine stC_one h3 (by simp) rfl fun w156 hw156 hf156 => ?_
          have h2' := hf156.keep h2 (fun e => hne e.symm)
          have c113 : w156.cell? ⟨n113, 0, none⟩ = some (.int .i64 pre.length) := cellOf h2' rfl
          simp only [c113, isB_i, isK_i, isP_i, isTup_i, isInt_i, isSl_i, isPtr_i, isCs_i, isStr_i, isFn_i, isIf_i, rd_i, br_t, br_f, orO_s, orO_n, gd_t, bv_add, bv_sub, bv_mul, bv_eql, bv_neq, bv_lss, bv_leq, bv_gtr, bv_geq, bv_quo, bv_rem, bv_shl, bv_shr, bv_seq, bv_sne, bv_ptr, bv_if, bv_map, bv_nf, bv_bool, bv_sl, bv_fn, uv_not, uv_neg, eqV, nilV, nc_ptr, nc_fn, nc_if, Option.map_some, toN, Nat.mul_one, implies_true, true_and, and_true, and_self]
          rw [w64 (by omega)]
          refine stC_one h2' (by simp) rfl fun w159 hw159 hf159 => ?_
          have hF : Fm (fun i => i = n110 ∨ i = n113) W1 w159 := (hf156.mono fun i _ e => .inl e).trans (hf159.mono fun i _ e => .inr e)
          refine ⟨keeps_of hF fun i e => ?_, KpC.fm hF fun i _ e => e, h1.trans hF, ?_, y.1, ?_, by omega, .inr ⟨y.2, by simp⟩⟩
          · rcases e with rfl | rfl
            · exact ⟨_, _, _, h3⟩
            · exact ⟨_, _, _, h2⟩
          · rw [hw159]; simp
          · have := hf159.keep hw156 hne
            rw [this, hi]; simp
    · rintro D ys W1 hD rfl ⟨h1, h2, -⟩ hd
      rw [hsort, hlen] at h2
      have hm7 := hmk6.keep hf118 fun _ _ _ h => h
      refine ⟨hf118.none.trans h1, h2, (hm7.keep h1 fun i _ hd' e => ?_).push (by have := hst7.fm.size; omega) hd fun ds he hm => ?_⟩
      · rcases e with rfl | rfl
        · rw [hb110'] at hd'; cases hd'
        · rw [hb113'] at hd'; cases hd'
      · have := hm7.lt ds he D hm; omega
    · rintro D pre W1 hD hp hx hd
      rw [hsort] at hp
      exact (hx hp).elim
  rintro u167 w168 ⟨hf168, hb168, hm168⟩
  change Marks w168 W.heap.size (u167 1000000) at hm168
  generalize u167 1000000 = mk' at hm168 ⊢
  have hst7 := hst6.keep hf168 (N := n110) (fun i e => by omega) hlt5 hW5
  have hG7 := hG6.keep hf168 (by omega) (by omega)
  refine ⟨fun u' w' => u' 15 = .int .i64 0 ∧ w' = w168, ⟨rfl, rfl⟩, ?_⟩
  rintro u172 w173 ⟨h15, rfl⟩
  change u172 15 = .int .i64 0 at h15
  rw [h15]
  refine ⟨fun u' w' => ∃ i : Nat, i ≤ n ∧ u' 15 = .int .i64 (cntT G i) ∧ u' 16 = .int .i64 ((i : Int) + 1) ∧ w' = w173, fun u' _ => n + 1 - (intOf (u' 16)).toNat, ⟨0, by omega, rfl, rfl, rfl⟩, ?_⟩
  rintro u3 w178 ⟨i, hi, h15', h16, rfl⟩
  change u3 15 = .int .i64 (cntT G i) at h15'
  change u3 16 = .int .i64 ((i : Int) + 1) at h16
  have c0 : w178.cell? ⟨n0, 0, none⟩ = some (.slice p n ac) := cellOf hst7.b0 rfl
  obtain ⟨g1, g2⟩ := hG7.read
  have hci := cntT_le G i
  simp only [h16, h15', c0, g1, isB_i, isK_i, isP_i, isTup_i, isInt_i, isSl_i, isPtr_i, isCs_i, isStr_i, isFn_i, isIf_i, rd_i, br_t, br_f, orO_s, orO_n, gd_t, bv_add, bv_sub, bv_mul, bv_eql, bv_neq, bv_lss, bv_leq, bv_gtr, bv_geq, bv_quo, bv_rem, bv_shl, bv_shr, bv_seq, bv_sne, bv_ptr, bv_if, bv_map, bv_nf, bv_bool, bv_sl, bv_fn, uv_not, uv_neg, eqV, nilV, nc_ptr, nc_fn, nc_if, Option.map_some, toN, Nat.mul_one, implies_true, true_and, and_true, and_self]
  refine br_dec (fun hin => ?_) (fun hin => ?_)
  · have g3 := g2 (i + 1) (by omega)
    rw [show ((i : Int) + 1) = ((i + 1 : Nat) : Int) by omega]
    simp only [addr_add, Nat.zero_add, g3, isB_i, isK_i, isP_i, isTup_i, isInt_i, isSl_i, isPtr_i, isCs_i, isStr_i, isFn_i, isIf_i, rd_i, br_t, br_f, orO_s, orO_n, gd_t, bv_add, bv_sub, bv_mul, bv_eql, bv_neq, bv_lss, bv_leq, bv_gtr, bv_geq, bv_quo, bv_rem, bv_shl, bv_shr, bv_seq, bv_sne, bv_ptr, bv_if, bv_map, bv_nf, bv_bool, bv_sl, bv_fn, uv_not, uv_neg, eqV, nilV, nc_ptr, nc_fn, nc_if, Option.map_some, toN, Nat.mul_one, implies_true, true_and, and_true, and_self]
    refine ⟨by omega, ?_⟩
    have hcs := cntT_succ G i
    cases hgg : G.getD (i + 1) false with
    | false =>
      simp only [isB_i, isK_i, isP_i, isTup_i, isInt_i, isSl_i, isPtr_i, isCs_i, isStr_i, isFn_i, isIf_i, rd_i, br_t, br_f, orO_s, orO_n, gd_t, bv_add, bv_sub, bv_mul, bv_eql, bv_neq, bv_lss, bv_leq, bv_gtr, bv_geq, bv_quo, bv_rem, bv_shl, bv_shr, bv_seq, bv_sne, bv_ptr, bv_if, bv_map, bv_nf, bv_bool, bv_sl, bv_fn, uv_not, uv_neg, eqV, nilV, nc_ptr, nc_fn, nc_if, Option.map_some, toN, Nat.mul_one, implies_true, true_and, and_true, and_self, Bool.not_false]
      rw [hgg] at hcs
      rw [w64 (by omega), w64 (by omega)]
      refine ⟨⟨i + 1, by omega, ?_, by rfl, rfl⟩, ?_⟩
      · show Value.int .i64 _ = _
        rw [hcs]; simp
      · show n + 1 - (((i + 1 : Nat) : Int) + 1).toNat < n + 1 - ((i + 1 : Nat) : Int).toNat; omega
    | true =>
      simp only [isB_i, isK_i, isP_i, isTup_i, isInt_i, isSl_i, isPtr_i, isCs_i, isStr_i, isFn_i, isIf_i, rd_i, br_t, br_f, orO_s, orO_n, gd_t, bv_add, bv_sub, bv_mul, bv_eql, bv_neq, bv_lss, bv_leq, bv_gtr, bv_geq, bv_quo, bv_rem, bv_shl, bv_shr, bv_seq, bv_sne, bv_ptr, bv_if, bv_map, bv_nf, bv_bool, bv_sl, bv_fn, uv_not, uv_neg, eqV, nilV, nc_ptr, nc_fn, nc_if, Option.map_some, toN, Nat.mul_one, implies_true, true_and, and_true, and_self, Bool.not_true]
      rw [hgg] at hcs
      rw [w64 (by omega)]
      refine ⟨⟨i + 1, by omega, ?_, by rfl, rfl⟩, ?_⟩
      · show Value.int .i64 _ = _
        rw [hcs]; simp
      · show n + 1 - (((i + 1 : Nat) : Int) + 1).toNat < n + 1 - ((i + 1 : Nat) : Int).toNat; omega
  · have c113 : w178.cell? ⟨n113, 0, none⟩ = some (.int .i64 (cntT G n)) := cellOf hb168 rfl
    have e : i = n := by omega
    subst e
    simp only [c113, isB_i, isK_i, isP_i, isTup_i, isInt_i, isSl_i, isPtr_i, isCs_i, isStr_i, isFn_i, isIf_i, rd_i, br_t, br_f, orO_s, orO_n, gd_t, bv_add, bv_sub, bv_mul, bv_eql, bv_neq, bv_lss, bv_leq, bv_gtr, bv_geq, bv_quo, bv_rem, bv_shl, bv_shr, bv_seq, bv_sne, bv_ptr, bv_if, bv_map, bv_nf, bv_bool, bv_sl, bv_fn, uv_not, uv_neg, eqV, nilV, nc_ptr, nc_fn, nc_if, Option.map_some, toN, Nat.mul_one, implies_true, true_and, and_true, and_self]
    refine br_ndec (fun h => (h trivial).elim) fun _ => ?_
    rw [w64 (by omega)]
    refine ⟨⟨k + 1, by omega, rfl, hG7, hst7, hm168⟩, ?_⟩
    show 2 - ((k : Int) + 1).toNat < 2 - (k : Int).toNat; omega
end Go.Proofs.Ytlhgibiffekpfaa
