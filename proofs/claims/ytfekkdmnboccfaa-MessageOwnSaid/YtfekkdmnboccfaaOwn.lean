/- message's law 11: what was read is of nobody else.  Conditions: the messages may be read. -/
import Derived.Test.YtfekkdmnboccfaaBack
import Derived.Test.YtfekkdmnboccfaaSiz
import Derived.Test.YtfekkdmnboccfaaC7
namespace Go.Proofs.Ytfekkdmnboccfaa
set_option linter.unusedSimpArgs false
set_option linter.unusedVariables false
open Go Go.RowKit VC
/-- Messages that are written over: where they lie, and that their bytes are bytes. -/
structure XI (w : World) (lo hi g n : Nat) (P : Nat → Option Addr × Nat × Nat) : Prop where
  row : ∃ cur : Array Value, w.heap[g]? = some (.cells cur 40 (0, 0)) ∧ 23 * n ≤ cur.size ∧ ∀ j, j < n → cur[j * 23 + 22]? = some (.slice (P j).1 (P j).2.1 (P j).2.2)
  gl : lo ≤ g
  gh : g < hi
  sm : ∀ j, j < n → (P j).2.1 ≤ 1000000
  byt : ∀ j k, j < n → k < (P j).2.1 → ∃ (b : Nat) (cur : Array Value) (y : Int), (P j).1 = some ⟨b, 0, none⟩ ∧ lo ≤ b ∧ b < hi ∧ w.heap[b]? = some (.cells cur 5 (0, 0)) ∧ cur[k]? = some (.int .u8 y)
theorem XI.keep {w w' : World} {lo hi g n : Nat} {P : Nat → Option Addr × Nat × Nat} {S : Nat → Prop} (h : XI w lo hi g n P) (f : Fm S w w') (hS : ∀ i, lo ≤ i → i < hi → ¬ S i) : XI w' lo hi g n P := by
  obtain ⟨⟨cur, h1, h2, h3⟩, h4, h5, hsm, h6⟩ := h
  refine ⟨⟨cur, f.keep h1 (hS g h4 h5), h2, h3⟩, h4, h5, hsm, fun j k hj hk => ?_⟩
  obtain ⟨b, c, y, e, hb1, hb2, hc, hy⟩ := h6 j k hj hk
  exact ⟨b, c, y, e, hb1, hb2, f.keep hc (hS b hb1 hb2), hy⟩
theorem XI.hdr {w : World} {lo hi g n : Nat} {P : Nat → Option Addr × Nat × Nat} (h : XI w lo hi g n P) {j : Nat} (hj : j < n) : w.cell? (Addr.add (Addr.add ⟨g, 0, none⟩ (j * 23)) 22) = some (.slice (P j).1 (P j).2.1 (P j).2.2) := by
  obtain ⟨⟨cur, h1, h2, h3⟩, -⟩ := h
  rw [addr_add, addr_add, Nat.zero_add]
  exact cellOf h1 (h3 j hj)
/-- A byte is written over. -/
theorem XI.setB {w : World} {lo hi g n : Nat} {P : Nat → Option Addr × Nat × Nat} (h : XI w lo hi g n P) {j k : Nat} {y : Int} {KK : World → Prop} {a : Addr} (hj : j < n) (hk : k < (P j).2.1) (ha : (P j).1 = some a)
    (kk : ∀ w', XI w' lo hi g n P → Fm (fun i => lo ≤ i ∧ i < hi) w w' → KK w') : stC w (Addr.add a k) [.int .u8 y] KK := by
  obtain ⟨b, cur, y0, e, hb1, hb2, hc, hy⟩ := h.byt j k hj hk
  rw [ha] at e; cases e
  rw [addr_add, Nat.zero_add]
  have hks := (Array.getElem?_eq_some_iff.1 hy).1
  refine stC_one hc hks rfl fun w' hw' hf' => ?_
  have hgb : g ≠ b := by
    rintro rfl
    obtain ⟨⟨cur', h1, -⟩, -⟩ := h
    rw [hc] at h1; cases h1
  refine kk w' ?_ (hf'.mono fun i _ e => by subst e; exact ⟨hb1, hb2⟩)
  obtain ⟨⟨cur', h1, h2, h3⟩, h4, h5, hsm, h6⟩ := h
  refine ⟨⟨cur', hf'.keep h1 hgb, h2, h3⟩, h4, h5, hsm, fun j' k' hj' hk' => ?_⟩
  obtain ⟨b', c', y', e', hb1', hb2', hc', hy'⟩ := h6 j' k' hj' hk'
  by_cases hbb : b' = b
  · subst hbb
    rw [hc] at hc'; cases hc'
    refine ⟨b', _, if k = k' then y else y', e', hb1', hb2', hw', ?_⟩
    rw [Array.getElem?_setIfInBounds]
    by_cases hkk : k = k'
    · rw [if_pos hkk, if_pos hks, if_pos hkk]
    · rw [if_neg hkk, if_neg hkk]; exact hy'
  · exact ⟨b', c', y', e', hb1', hb2', hf'.keep hc' hbb, hy'⟩
/-- A kind is written over. -/
theorem XI.setK {w : World} {lo hi g n : Nat} {P : Nat → Option Addr × Nat × Nat} (h : XI w lo hi g n P) {j : Nat} {y : Int} {KK : World → Prop} (hj : j < n)
    (kk : ∀ w', XI w' lo hi g n P → Fm (fun i => lo ≤ i ∧ i < hi) w w' → KK w') : stC w (Addr.add ⟨g, 0, none⟩ (j * 23)) [.int .i64 y] KK := by
  obtain ⟨⟨cur, h1, h2, h3⟩, h4, h5, hsm, h6⟩ := h
  rw [addr_add, Nat.zero_add]
  refine stC_one h1 (by omega) rfl fun w' hw' hf' => kk w' ⟨⟨_, hw', by simpa using h2, fun j' hj' => ?_⟩, h4, h5, hsm, fun j' k' hj' hk' => ?_⟩ (hf'.mono fun i _ e => by subst e; exact ⟨h4, h5⟩)
  · rw [Array.getElem?_setIfInBounds, if_neg (by omega)]
    exact h3 j' hj'
  · obtain ⟨b', c', y', e', hb1', hb2', hc', hy'⟩ := h6 j' k' hj' hk'
    refine ⟨b', c', y', e', hb1', hb2', hf'.keep hc' ?_, hy'⟩
    rintro rfl
    rw [h1] at hc'; cases hc'
theorem OwnMsgs.xi {w : World} {base : Nat} {p : Option Addr} {c : Nat} {ms : List Msg} (h : OwnMsgs w base (.slice p ms.length c) ms) (hne : ms ≠ []) (hsm : ∀ m ∈ ms, m.bytes.length ≤ 1000000) :
    ∃ g P, p = some ⟨g, 0, none⟩ ∧ XI w base w.heap.size g ms.length P := by
  obtain ⟨qs, hl, ho, hb⟩ := h
  have hpos : 0 < ms.length := List.length_pos_iff.2 hne
  rcases ho.2 with ⟨h0, h1⟩ | ⟨g, cap, cur, hv, hg, hgb, hcap, hmx, hsz, htk⟩
  · omega
  · cases hv
    refine ⟨g, fun j => ((qs.getD j (none, 0)).1, (ms.getD j (blank 0)).bytes.length, (qs.getD j (none, 0)).2), rfl, ⟨⟨cur, hgb, ?_, fun j hj => ?_⟩, hg, lt_of_blk hgb, fun j hj => ?_, fun j k hj hk => ?_⟩⟩
    · rw [hsz]; have := Nat.mul_le_mul_right 23 hcap; omega
    · have hm : ms[j]? = some (ms[j]'hj) := by simp
      have hq : qs[j]? = some (qs[j]'(by omega)) := by simp
      have hz : (ms.zip qs)[j]? = some (ms[j]'hj, qs[j]'(by omega)) := by rw [List.getElem?_zip_eq_some]; exact ⟨hm, hq⟩
      have := flat_get (k := 23) (f := fun x : Msg × Option Addr × Nat => msgC x.1 x.2.1 x.2.2) (fun _ => rfl) _ j 22 _ hz (by omega)
      rw [← htk, List.getElem?_take, if_pos (by omega)] at this
      rw [← Array.getElem?_toList, this]
      simp only [List.getD_eq_getElem?_getD, hm, hq, Option.getD_some]
      rfl
    · have hm : ms[j]? = some (ms[j]'hj) := by simp
      simp only [List.getD_eq_getElem?_getD, hm, Option.getD_some]
      exact hsm _ (List.getElem_mem _)
    · have hm : ms[j]? = some (ms[j]'hj) := by simp
      have hq : qs[j]? = some (qs[j]'(by omega)) := by simp
      have h5 := hb j _ _ hm hq
      simp only [List.getD_eq_getElem?_getD, hm, hq, Option.getD_some] at hk ⊢
      rcases h5.2 with ⟨h0, h1⟩ | ⟨g5, cap5, cur5, hv5, hg5, hgb5, hcap5, hmx5, hsz5, htk5⟩
      · omega
      · simp only [Value.slice.injEq] at hv5
        obtain ⟨y, hy⟩ : ∃ y, (ms[j]'hj).bytes[k]? = some y := ⟨(ms[j]'hj).bytes[k]'hk, by simp⟩
        refine ⟨g5, cur5, y, hv5.1, hg5, lt_of_blk hgb5, hgb5, ?_⟩
        have : (((ms[j]'hj).bytes.map (Value.int .u8)))[k]? = some (.int .u8 y) := by rw [List.getElem?_map, hy]; rfl
        rw [← htk5, List.getElem?_take, if_pos (by omega)] at this
        rw [← Array.getElem?_toList]; exact this
variable {w : World}
set_option maxRecDepth 20000 in
set_option maxHeartbeats 4000000 in
theorem own_c {ms : List Msg} {p : Option Addr} {n c : Nat} (hn : n = ms.length) (hin : In w p ms) :
    callV Try.prog 11 [.slice p n c] w fun v w' => v = .bool true ∧ Fm none' w w' := by
  subst hn
  refine vc11 p ms.length c w _ ?_
  refine shown12_c.mono ?_
  rintro _ w1 ⟨rfl, hf1⟩
  simp only [isB_i, isK_i, isP_i, isTup_i, isInt_i, isSl_i, isPtr_i, isCs_i, isStr_i, isFn_i, isIf_i, rd_i, br_t, br_f, orO_s, orO_n, gd_t, bv_add, bv_sub, bv_mul, bv_eql, bv_neq, bv_lss, bv_leq, bv_gtr, bv_geq, bv_quo, bv_rem, bv_shl, bv_shr, bv_seq, bv_sne, bv_ptr, bv_if, bv_map, bv_nf, bv_bool, bv_sl, bv_fn, uv_not, uv_neg, eqV, nilV, nc_ptr, nc_fn, nc_if, Option.map_some, toN, Nat.mul_one, implies_true, true_and, and_true, and_self]
  obtain ⟨hok, hl⟩ := few_ok hin.ok
  refine (few_run (hin.keep hf1)).mono ?_
  rintro _ w4 ⟨q, d, rfl, hat, hf4⟩
  simp only [isB_i, isK_i, isP_i, isTup_i, isInt_i, isSl_i, isPtr_i, isCs_i, isStr_i, isFn_i, isIf_i, rd_i, br_t, br_f, orO_s, orO_n, gd_t, bv_add, bv_sub, bv_mul, bv_eql, bv_neq, bv_lss, bv_leq, bv_gtr, bv_geq, bv_quo, bv_rem, bv_shl, bv_shr, bv_seq, bv_sne, bv_ptr, bv_if, bv_map, bv_nf, bv_bool, bv_sl, bv_fn, uv_not, uv_neg, eqV, nilV, nc_ptr, nc_fn, nc_if, Option.map_some, toN, Nat.mul_one, implies_true, true_and, and_true, and_self]
  obtain ⟨l, hll⟩ : ∃ l, l = fewM ms := ⟨_, rfl⟩
  rw [← hll] at hok hl hat ⊢
  refine (enc_run hat hok).mono ?_
  rintro _ w9 ⟨e, ed, rfl, hbe, -, hf9⟩
  simp only [isB_i, isK_i, isP_i, isTup_i, isInt_i, isSl_i, isPtr_i, isCs_i, isStr_i, isFn_i, isIf_i, rd_i, br_t, br_f, orO_s, orO_n, gd_t, bv_add, bv_sub, bv_mul, bv_eql, bv_neq, bv_lss, bv_leq, bv_gtr, bv_geq, bv_quo, bv_rem, bv_shl, bv_shr, bv_seq, bv_sne, bv_ptr, bv_if, bv_map, bv_nf, bv_bool, bv_sl, bv_fn, uv_not, uv_neg, eqV, nilV, nc_ptr, nc_fn, nc_if, Option.map_some, toN, Nat.mul_one, implies_true, true_and, and_true, and_self, List.getElem?_cons_zero, List.getElem?_cons_succ]
  have hF9 := (hf1.trans hf4).trans hf9
  refine br_ndec (fun _ => hF9) (fun he => ?_)
  obtain ⟨h1, h2, h3, h4⟩ := enc_ok hok he
  have hd : decodeM (encodeM l).1 = (l, 0) := by rw [h4]; exact dec_enc h1 h2 h3
  obtain ⟨ys, hys⟩ : ∃ ys, ys = (encodeM l).1 := ⟨_, rfl⟩
  have hyr : ∀ y ∈ ys, 0 ≤ y ∧ y < 256 := by rw [hys]; exact enc_range _
  have hyl : ys.length ≤ 1024 := by rw [hys, h4]; exact h3
  rw [← hys] at hd hbe ⊢
  clear h4 he
  refine conv_run rfl hbe ?_
  simp only [isB_i, isK_i, isP_i, isTup_i, isInt_i, isSl_i, isPtr_i, isCs_i, isStr_i, isFn_i, isIf_i, rd_i, br_t, br_f, orO_s, orO_n, gd_t, bv_add, bv_sub, bv_mul, bv_eql, bv_neq, bv_lss, bv_leq, bv_gtr, bv_geq, bv_quo, bv_rem, bv_shl, bv_shr, bv_seq, bv_sne, bv_ptr, bv_if, bv_map, bv_nf, bv_bool, bv_sl, bv_fn, uv_not, uv_neg, eqV, nilV, nc_ptr, nc_fn, nc_if, Option.map_some, toN, Nat.mul_one, implies_true, true_and, and_true, and_self]
  refine (decode18_c hbe hyr (by omega)).mono ?_
  rw [hd]
  rintro _ w22 ⟨sv, rfl, hx22, hf22⟩
  obtain ⟨px, cx, rfl, -⟩ := hx22.at
  simp only [isB_i, isK_i, isP_i, isTup_i, isInt_i, isSl_i, isPtr_i, isCs_i, isStr_i, isFn_i, isIf_i, rd_i, br_t, br_f, orO_s, orO_n, gd_t, bv_add, bv_sub, bv_mul, bv_eql, bv_neq, bv_lss, bv_leq, bv_gtr, bv_geq, bv_quo, bv_rem, bv_shl, bv_shr, bv_seq, bv_sne, bv_ptr, bv_if, bv_map, bv_nf, bv_bool, bv_sl, bv_fn, uv_not, uv_neg, eqV, nilV, nc_ptr, nc_fn, nc_if, Option.map_some, toN, Nat.mul_one, implies_true, true_and, and_true, and_self, List.getElem?_cons_zero, List.getElem?_cons_succ]
  refine (decode18_c (hbe.keep hf22 fun _ _ => id) hyr (by omega)).mono ?_
  rw [hd]
  rintro _ w32 ⟨sv, rfl, hy32, hf32⟩
  obtain ⟨py, cy, rfl, -⟩ := hy32.at
  simp only [isB_i, isK_i, isP_i, isTup_i, isInt_i, isSl_i, isPtr_i, isCs_i, isStr_i, isFn_i, isIf_i, rd_i, br_t, br_f, orO_s, orO_n, gd_t, bv_add, bv_sub, bv_mul, bv_eql, bv_neq, bv_lss, bv_leq, bv_gtr, bv_geq, bv_quo, bv_rem, bv_shl, bv_shr, bv_seq, bv_sne, bv_ptr, bv_if, bv_map, bv_nf, bv_bool, bv_sl, bv_fn, uv_not, uv_neg, eqV, nilV, nc_ptr, nc_fn, nc_if, Option.map_some, toN, Nat.mul_one, implies_true, true_and, and_true, and_self, List.getElem?_cons_zero, List.getElem?_cons_succ]
  refine br_ndec (fun h => absurd trivial h) (fun _ => ?_)
  have hF32 := (hF9.trans hf22).trans hf32
  have hs9 := hF9.size
  have hs22 := hf22.size
  have hs32 := hf32.size
  have hxi : l.length = 0 ∨ ∃ g P, px = some ⟨g, 0, none⟩ ∧ XI w32 w9.heap.size w22.heap.size g l.length P := by
    cases hl0 : l with
    | nil => exact .inl rfl
    | cons m l' =>
      right
      obtain ⟨g, P, e, hx⟩ := hx22.xi (by rw [hl0]; simp) (fun m hm => by have := hl m hm; omega)
      rw [hl0] at hx
      exact ⟨g, P, e, hx.keep hf32 fun _ _ _ => id⟩
  have hl16 : l.length ≤ 16 := h2
  refine ⟨fun u w' => ∃ i : Nat, i ≤ l.length ∧ u 11 = .int .i64 i ∧ Fm (fun i => w9.heap.size ≤ i ∧ i < w22.heap.size) w32 w' ∧ (l.length = 0 ∨ ∃ g P, px = some ⟨g, 0, none⟩ ∧ XI w' w9.heap.size w22.heap.size g l.length P), fun u _ => l.length - (intOf (u 11)).toNat, ⟨0, by omega, rfl, Fm.refl _ _, hxi⟩, ?_⟩
  rintro u w44 ⟨i, hi, h11, hF44, hX⟩
  change u 11 = .int .i64 i at h11
  simp only [h11, isB_i, isK_i, isP_i, isTup_i, isInt_i, isSl_i, isPtr_i, isCs_i, isStr_i, isFn_i, isIf_i, rd_i, br_t, br_f, orO_s, orO_n, gd_t, bv_add, bv_sub, bv_mul, bv_eql, bv_neq, bv_lss, bv_leq, bv_gtr, bv_geq, bv_quo, bv_rem, bv_shl, bv_shr, bv_seq, bv_sne, bv_ptr, bv_if, bv_map, bv_nf, bv_bool, bv_sl, bv_fn, uv_not, uv_neg, eqV, nilV, nc_ptr, nc_fn, nc_if, Option.map_some, toN, Nat.mul_one, implies_true, true_and, and_true, and_self]
  refine br_dec (fun hil => ?_) (fun hil => ?_)
  · obtain ⟨g, P, rfl, hX1⟩ := hX.resolve_left (by omega)
    have hil' : i < l.length := by omega
    refine ⟨fun _ w' => Fm (fun i => w9.heap.size ≤ i ∧ i < w22.heap.size) w32 w' ∧ XI w' w9.heap.size w22.heap.size g l.length P, ?_, ?_⟩
    · refine ⟨fun u w' => ∃ k : Nat, k ≤ (P i).2.1 ∧ u 12 = .int .i64 k ∧ Fm (fun i => w9.heap.size ≤ i ∧ i < w22.heap.size) w32 w' ∧ XI w' w9.heap.size w22.heap.size g l.length P, fun u _ => (P i).2.1 - (intOf (u 12)).toNat, ⟨0, by omega, rfl, hF44, hX1⟩, ?_⟩
      rintro u2 w51 ⟨k, hk, h12, hF51, hX51⟩
      change u2 12 = .int .i64 k at h12
      simp only [h12, h11, isB_i, isK_i, isP_i, isTup_i, isInt_i, isSl_i, isPtr_i, isCs_i, isStr_i, isFn_i, isIf_i, rd_i, br_t, br_f, orO_s, orO_n, gd_t, bv_add, bv_sub, bv_mul, bv_eql, bv_neq, bv_lss, bv_leq, bv_gtr, bv_geq, bv_quo, bv_rem, bv_shl, bv_shr, bv_seq, bv_sne, bv_ptr, bv_if, bv_map, bv_nf, bv_bool, bv_sl, bv_fn, uv_not, uv_neg, eqV, nilV, nc_ptr, nc_fn, nc_if, Option.map_some, toN, Nat.mul_one, implies_true, true_and, and_true, and_self]
      refine ⟨by omega, rd_of (hX51.hdr hil') ?_⟩
      simp only [isB_i, isK_i, isP_i, isTup_i, isInt_i, isSl_i, isPtr_i, isCs_i, isStr_i, isFn_i, isIf_i, rd_i, br_t, br_f, orO_s, orO_n, gd_t, bv_add, bv_sub, bv_mul, bv_eql, bv_neq, bv_lss, bv_leq, bv_gtr, bv_geq, bv_quo, bv_rem, bv_shl, bv_shr, bv_seq, bv_sne, bv_ptr, bv_if, bv_map, bv_nf, bv_bool, bv_sl, bv_fn, uv_not, uv_neg, eqV, nilV, nc_ptr, nc_fn, nc_if, Option.map_some, toN, Nat.mul_one, implies_true, true_and, and_true, and_self]
      refine br_dec (fun hkl => ?_) (fun _ => ⟨hF51, hX51⟩)
      have hkl' : k < (P i).2.1 := by omega
      have hsm := hX51.sm i hil'
      have hXd := hX51.keep (Fm.drew w51) fun _ _ _ => id
      have hh := hXd.hdr hil'
      obtain ⟨b, cur, y, eb, hb1, hb2, hc, hy⟩ := hXd.byt i k hil' hkl'
      refine ⟨fun w' => w'.cell? (Addr.add (Addr.add ⟨g, 0, none⟩ (i * 23)) 22) = some (.slice (P i).1 (P i).2.1 (P i).2.2), hh, ?_⟩
      simp only [isB_i, isK_i, isP_i, isTup_i, isInt_i, isSl_i, isPtr_i, isCs_i, isStr_i, isFn_i, isIf_i, rd_i, br_t, br_f, orO_s, orO_n, gd_t, bv_add, bv_sub, bv_mul, bv_eql, bv_neq, bv_lss, bv_leq, bv_gtr, bv_geq, bv_quo, bv_rem, bv_shl, bv_shr, bv_seq, bv_sne, bv_ptr, bv_if, bv_map, bv_nf, bv_bool, bv_sl, bv_fn, uv_not, uv_neg, eqV, nilV, nc_ptr, nc_fn, nc_if, Option.map_some, toN, Nat.mul_one, implies_true, true_and, and_true, and_self]
      refine ⟨by omega, fun _ _ => by omega, rd_of hh ⟨fun w' hw => rd_of hw rfl, ?_⟩⟩
      simp only [isB_i, isK_i, isP_i, isTup_i, isInt_i, isSl_i, isPtr_i, isCs_i, isStr_i, isFn_i, isIf_i, rd_i, br_t, br_f, orO_s, orO_n, gd_t, bv_add, bv_sub, bv_mul, bv_eql, bv_neq, bv_lss, bv_leq, bv_gtr, bv_geq, bv_quo, bv_rem, bv_shl, bv_shr, bv_seq, bv_sne, bv_ptr, bv_if, bv_map, bv_nf, bv_bool, bv_sl, bv_fn, uv_not, uv_neg, eqV, nilV, nc_ptr, nc_fn, nc_if, Option.map_some, toN, Nat.mul_one, implies_true, true_and, and_true, and_self]
      refine ⟨by omega, fun _ _ => by omega, rd_of hh ⟨fun w' hw => rd_of hw rfl, ?_⟩⟩
      simp only [isB_i, isK_i, isP_i, isTup_i, isInt_i, isSl_i, isPtr_i, isCs_i, isStr_i, isFn_i, isIf_i, rd_i, br_t, br_f, orO_s, orO_n, gd_t, bv_add, bv_sub, bv_mul, bv_eql, bv_neq, bv_lss, bv_leq, bv_gtr, bv_geq, bv_quo, bv_rem, bv_shl, bv_shr, bv_seq, bv_sne, bv_ptr, bv_if, bv_map, bv_nf, bv_bool, bv_sl, bv_fn, uv_not, uv_neg, eqV, nilV, nc_ptr, nc_fn, nc_if, Option.map_some, toN, Nat.mul_one, implies_true, true_and, and_true, and_self]
      have hh' := hh
      rw [eb] at hh' ⊢
      simp only [isB_i, isK_i, isP_i, isTup_i, isInt_i, isSl_i, isPtr_i, isCs_i, isStr_i, isFn_i, isIf_i, rd_i, br_t, br_f, orO_s, orO_n, gd_t, bv_add, bv_sub, bv_mul, bv_eql, bv_neq, bv_lss, bv_leq, bv_gtr, bv_geq, bv_quo, bv_rem, bv_shl, bv_shr, bv_seq, bv_sne, bv_ptr, bv_if, bv_map, bv_nf, bv_bool, bv_sl, bv_fn, uv_not, uv_neg, eqV, nilV, nc_ptr, nc_fn, nc_if, Option.map_some, toN, Nat.mul_one, implies_true, true_and, and_true, and_self]
      refine ⟨by omega, fun _ _ => by omega, rd_of (v := .int .u8 y) (by rw [addr_add, Nat.zero_add]; exact cellOf hc hy) ?_⟩
      simp only [isB_i, isK_i, isP_i, isTup_i, isInt_i, isSl_i, isPtr_i, isCs_i, isStr_i, isFn_i, isIf_i, rd_i, br_t, br_f, orO_s, orO_n, gd_t, bv_add, bv_sub, bv_mul, bv_eql, bv_neq, bv_lss, bv_leq, bv_gtr, bv_geq, bv_quo, bv_rem, bv_shl, bv_shr, bv_seq, bv_sne, bv_ptr, bv_if, bv_map, bv_nf, bv_bool, bv_sl, bv_fn, uv_not, uv_neg, eqV, nilV, nc_ptr, nc_fn, nc_if, Option.map_some, toN, Nat.mul_one, implies_true, true_and, and_true, and_self]
      refine ⟨hh', by omega, fun _ _ => by omega, ?_⟩
      refine hXd.setB hil' hkl' eb fun w' hX' hF' => ?_
      rw [w64 (by omega)]
      refine ⟨by have := hX'.hdr hil'; rwa [eb] at this, ⟨k + 1, by omega, rfl, (hF51.trans (Fm.drew w51).none).trans hF', hX'⟩, ?_⟩
      show (P i).2.1 - ((k : Int) + 1).toNat < (P i).2.1 - (k : Int).toNat; omega
    · rintro - w52 ⟨hF52, hX52⟩
      simp only [h11, isB_i, isK_i, isP_i, isTup_i, isInt_i, isSl_i, isPtr_i, isCs_i, isStr_i, isFn_i, isIf_i, rd_i, br_t, br_f, orO_s, orO_n, gd_t, bv_add, bv_sub, bv_mul, bv_eql, bv_neq, bv_lss, bv_leq, bv_gtr, bv_geq, bv_quo, bv_rem, bv_shl, bv_shr, bv_seq, bv_sne, bv_ptr, bv_if, bv_map, bv_nf, bv_bool, bv_sl, bv_fn, uv_not, uv_neg, eqV, nilV, nc_ptr, nc_fn, nc_if, Option.map_some, toN, Nat.mul_one, implies_true, true_and, and_true, and_self]
      refine ⟨by omega, hX52.setK hil' fun w53 hX53 hF53 => ?_⟩
      rw [w64 (by omega)]
      exact ⟨⟨i + 1, by omega, rfl, hF52.trans hF53, .inr ⟨g, P, rfl, hX53⟩⟩, by show l.length - ((i : Int) + 1).toNat < l.length - (i : Int).toNat; omega⟩
  · have hFall : Fm none' w w44 := hF32.trans' hF44 (by rintro i hi ⟨h1, h2⟩; omega)
    have hS : ∀ i, i < w32.heap.size → ¬ (w9.heap.size ≤ i ∧ i < w22.heap.size) → w44.heap[i]? = w32.heap[i]? := fun i hi hn => hF44.blk i hi hn
    have hy44 : OwnMsgs w44 w22.heap.size (.slice py l.length cy) l := hy32.keep hF44 (by rintro i c t hc hb ht ⟨h1, h2⟩; omega)
    have hl44 : MsgsAt w44 w9.heap.size q l := (((hat.keep hf9 fun _ _ => id).keep hf22 fun _ _ => id).keep hf32 fun _ _ => id).up hf9.size |>.keep hF44 (by rintro i hi ⟨h1, h2⟩; omega)
    have hb44 : BytesAt w44 e ys := by
      have hlt := hbe.lt
      exact ((hbe.keep hf22 fun _ _ => id).keep hf32 fun _ _ => id).keepN hF44 fun ad e' hne => by have := hlt ad e' hne; omega
    obtain ⟨py', cy', e', hat44⟩ := hy44.at
    cases e'
    refine (same20_c hat44 hl44 (fun m hm => (hok.ok m hm).bytes) (fun m hm => (hok.ok m hm).bytes) (by omega)).mono ?_
    rintro _ w121 ⟨rfl, hf121⟩
    simp only [decide_true, isB_i, isK_i, isP_i, isTup_i, isInt_i, isSl_i, isPtr_i, isCs_i, isStr_i, isFn_i, isIf_i, rd_i, br_t, br_f, orO_s, orO_n, gd_t, bv_add, bv_sub, bv_mul, bv_eql, bv_neq, bv_lss, bv_leq, bv_gtr, bv_geq, bv_quo, bv_rem, bv_shl, bv_shr, bv_seq, bv_sne, bv_ptr, bv_if, bv_map, bv_nf, bv_bool, bv_sl, bv_fn, uv_not, uv_neg, eqV, nilV, nc_ptr, nc_fn, nc_if, Option.map_some, toN, Nat.mul_one, implies_true, true_and, and_true, and_self]
    refine conv_run rfl (hb44.keep hf121 fun _ _ => id) ?_
    simp only [decide_true, isB_i, isK_i, isP_i, isTup_i, isInt_i, isSl_i, isPtr_i, isCs_i, isStr_i, isFn_i, isIf_i, rd_i, br_t, br_f, orO_s, orO_n, gd_t, bv_add, bv_sub, bv_mul, bv_eql, bv_neq, bv_lss, bv_leq, bv_gtr, bv_geq, bv_quo, bv_rem, bv_shl, bv_shr, bv_seq, bv_sne, bv_ptr, bv_if, bv_map, bv_nf, bv_bool, bv_sl, bv_fn, uv_not, uv_neg, eqV, nilV, nc_ptr, nc_fn, nc_if, Option.map_some, toN, Nat.mul_one, implies_true, true_and, and_true, and_self]
    exact hFall.trans hf121
end Go.Proofs.Ytfekkdmnboccfaa
