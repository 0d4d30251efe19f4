/- RingPlays comes to true and turns nothing that was there.  Conditions: the argument's cells hold numbers. -/
import Derived.Test.YtlhgibiffekpfaaRef
import Derived.Test.YtlhgibiffekpfaaShown
import Derived.Test.YtlhgibiffekpfaaC4
namespace Go.Proofs.Ytlhgibiffekpfaa
set_option linter.unusedSimpArgs false
set_option linter.unusedVariables false
open Go Go.RowKit VC
theorem RingG.le {w : World} {R : Nat} {most : Int} {buf : List Int} {g : Option Nat} (h : RingG w R most buf g) : (buf.length : Int) ≤ most := by
  obtain ⟨s, raw, f, -, -, -, h3, -, -, rfl⟩ := h
  rw [rot_length]; exact h3
/-- The law's things lie so, all below N. -/
structure St (W : World) (n0 n10 R Q : Nat) (M m : Int) (buf : List Int) (g q : Option Nat) (mk : Value) (N : Nat) (w : World) : Prop where
  ring : RingG w R M buf g
  ref : RefG w Q m buf q
  gq : ∀ i, g = some i → q ≠ some i
  hg : ∀ i, g = some i → W.heap.size ≤ i ∧ i < N
  hq : ∀ i, q = some i → W.heap.size ≤ i ∧ i < N
  c0 : w.heap[n0]? = some (.cells #[.bool false] 4 (0, 0))
  c1 : w.heap[n10]? = some (.cells #[.pointer (some ⟨Q, 0, none⟩)] 50 (0, 0))
  lo : W.heap.size ≤ n0 ∧ W.heap.size ≤ n10 ∧ W.heap.size ≤ R ∧ W.heap.size ≤ Q
  hi : n0 < N ∧ n10 < N ∧ R < N ∧ Q < N
  marks : ∃ ds, mk = encD ds ∧ ds.Nodup ∧ ∀ d ∈ ds, W.heap.size ≤ d ∧ d < N ∧ w.heap[d]? = some (.deferred (some []))
  fm : Fm none' W w
  nw : W.heap.size ≤ N ∧ N ≤ w.heap.size
variable {W w : World} {n0 n10 R Q N : Nat} {M m : Int} {buf : List Int} {g q : Option Nat} {mk : Value}
theorem St.keep {w' : World} {S : Nat → Prop} (h : St W n0 n10 R Q M m buf g q mk N w) (f : Fm S w w') (hS : ∀ i, S i → N ≤ i) : St W n0 n10 R Q M m buf g q mk N w' where
  ring := h.ring.keep f (fun e => by have := hS _ e; have := h.hi; omega) fun i hi e => by have := hS _ e; have := h.hg i hi; omega
  ref := h.ref.keep f (fun e => by have := hS _ e; have := h.hi; omega) fun i hi e => by have := hS _ e; have := h.hq i hi; omega
  gq := h.gq
  hg := h.hg
  hq := h.hq
  c0 := f.keep h.c0 fun e => by have := hS _ e; have := h.hi; omega
  c1 := f.keep h.c1 fun e => by have := hS _ e; have := h.hi; omega
  lo := h.lo
  hi := h.hi
  marks := by
    obtain ⟨ds, h1, h2, h3⟩ := h.marks
    exact ⟨ds, h1, h2, fun d hd => ⟨(h3 d hd).1, (h3 d hd).2.1, f.keep (h3 d hd).2.2 fun e => by have := hS _ e; have := h3 d hd; omega⟩⟩
  fm := h.fm.trans' f fun i hi e => by have := hS i e; have := h.nw; omega
  nw := ⟨h.nw.1, Nat.le_trans h.nw.2 f.size⟩
theorem St.to {N' : Nat} (h : St W n0 n10 R Q M m buf g q mk N w) (hN : N ≤ N') (hw : N' ≤ w.heap.size) : St W n0 n10 R Q M m buf g q mk N' w :=
  { h with
    hg := fun i hi => ⟨(h.hg i hi).1, by have := h.hg i hi; omega⟩
    hq := fun i hi => ⟨(h.hq i hi).1, by have := h.hq i hi; omega⟩
    hi := by have := h.hi; omega
    marks := by
      obtain ⟨ds, h1, h2, h3⟩ := h.marks
      exact ⟨ds, h1, h2, fun d hd => ⟨(h3 d hd).1, by have := h3 d hd; omega, (h3 d hd).2.2⟩⟩
    nw := ⟨by have := h.nw; omega, hw⟩ }
theorem St.mk' (h : St W n0 n10 R Q M m buf g q mk N w) : Marks w W.heap.size mk := by
  obtain ⟨ds, h1, h2, h3⟩ := h.marks
  exact ⟨ds, h1, h2, fun d hd => ⟨(h3 d hd).1, (h3 d hd).2.2⟩⟩
theorem St.push {D : Nat} (h : St W n0 n10 R Q M m buf g q mk N w) (hD : N ≤ D) (hd : w.heap[D]? = some (.deferred (some []))) : St W n0 n10 R Q M m buf g q (pushD D mk) w.heap.size w :=
  { h.to h.nw.2 (Nat.le_refl _) with
    marks := by
      obtain ⟨ds, rfl, h2, h3⟩ := h.marks
      refine ⟨D :: ds, by simp only [pushD, dfOf_encD], List.nodup_cons.2 ⟨fun hm => by have := h3 D hm; omega, h2⟩, fun d hd' => ?_⟩
      rcases List.mem_cons.1 hd' with rfl | hd'
      · exact ⟨by have := h.nw; omega, lt_of_blk hd, hd⟩
      · have := h3 d hd'; exact ⟨this.1, lt_of_blk this.2.2, this.2.2⟩ }
theorem St.reads (h : St W n0 n10 R Q M m buf g q mk N w) : w.cell? ⟨n10, 0, none⟩ = some (.pointer (some ⟨Q, 0, none⟩)) ∧ ∃ p c, w.cell? ⟨Q, 1, none⟩ = some (.slice p buf.length c) ∧ ∀ (j : Nat) (x : Int), buf[j]? = some x → ∃ i o, p = some ⟨i, o, none⟩ ∧ w.cell? ⟨i, o + j, none⟩ = some (.int .i64 x) := by
  refine ⟨cellOf h.c1 rfl, ?_⟩
  obtain ⟨p, n, c, h1, rfl, h3, h4, h5⟩ := h.ref
  refine ⟨p, c, cellOf h1 rfl, fun j x hj => ?_⟩
  obtain ⟨i, o, e1, e2, hc⟩ := h5 j (.int .i64 x) (by rw [List.getElem?_map, hj]; rfl)
  exact ⟨i, o, e1, hc⟩
theorem St.notS {i : Nat} {o : Obj} (h : St W n0 n10 R Q M m buf g q mk N w) (hi : w.heap[i]? = some o) (h90 : ∀ c, o ≠ .cells c 90 (0, 0)) (h3 : ∀ c, o ≠ .cells c 3 (0, 0)) : ¬ (i = R ∨ g = some i) := by
  rintro (rfl | e)
  · obtain ⟨c, hc⟩ := h.ring.blocks.1; rw [hc] at hi; exact h90 c (Option.some.inj hi).symm
  · obtain ⟨-, c, hc⟩ := h.ring.blocks.2 _ e; rw [hc] at hi; exact h3 c (Option.some.inj hi).symm
theorem RefG.blk {w : World} {Q : Nat} {most : Int} {buf : List Int} {q : Option Nat} (h : RefG w Q most buf q) : ∃ c, w.heap[Q]? = some (.cells c 52 (0, 0)) := by
  obtain ⟨p, n, c, h1, -⟩ := h
  exact ⟨_, h1⟩
theorem RefG.notQ {w : World} {i Q : Nat} {o : Obj} {most : Int} {buf : List Int} {q : Option Nat} (h : RefG w Q most buf q) (hi : w.heap[i]? = some o) (h52 : ∀ c, o ≠ .cells c 52 (0, 0)) : ¬ i = Q := by
  rintro rfl
  obtain ⟨c, hc⟩ := h.blk
  rw [hc] at hi; exact h52 c (Option.some.inj hi).symm
theorem St.fin (h : St W n0 n10 R Q M m buf g q mk N w) {K : Value → World → Prop} (k : ∀ w', Fm none' W w' → K (.bool true) w') :
    stC w ⟨n0, 0, none⟩ [.bool true] fun w1 => leaveC mk w1 fun w2 => rd (w2.cell? ⟨n0, 0, none⟩) fun v => K v w2 := by
  refine stC_one h.c0 (by simp) rfl fun w1 hw1 hf1 => ?_
  have hlo := h.lo
  refine (h.mk'.keep hf1 fun i _ hd e => by rw [e, h.c0] at hd; cases hd).leave fun w2 hf2 => ?_
  refine rd_of (v := .bool true) (cellOf (hf2.keep hw1 fun e => by rw [hw1] at e; cases e.2) rfl) (k _ ?_)
  exact (h.fm.trans' hf1 fun i hi e => by omega).trans' hf2 fun i hi e => by omega
set_option maxHeartbeats 2000000 in
set_option maxRecDepth 20000 in
theorem plays_c (a : Int) (bp : Option Addr) (bn bc : Nat) (ss : Nat → Int) (W : World) (hl : ∀ i, i < bn → ∃ ad, bp = some ad ∧ W.cell? (ad.add i) = some (.int .i64 (ss i))) :
    callV Try.prog 6 [.int .i64 a, .slice bp bn bc] W fun v w' => v = .bool true ∧ Fm none' W w' := by
  refine vc6 a bp bn bc W _ ?_
  refine allocC_of fun w1 hb1 hs1 hf1 => ?_
  refine (shown_c w1).mono ?_
  rintro _ w3 ⟨rfl, hf3⟩
  simp only [isB_i, isK_i, isP_i, isTup_i, isInt_i, isSl_i, isPtr_i, isCs_i, isStr_i, isFn_i, isIf_i, rd_i, br_t, br_f, orO_s, orO_n, gd_t, bv_add, bv_sub, bv_mul, bv_eql, bv_neq, bv_lss, bv_leq, bv_gtr, bv_geq, bv_quo, bv_rem, bv_shl, bv_shr, bv_seq, bv_sne, bv_ptr, bv_if, bv_map, bv_nf, bv_bool, bv_sl, bv_fn, uv_not, uv_neg, eqV, nilV, nc_ptr, nc_fn, nc_if, Option.map_some, toN, Nat.mul_one, implies_true, true_and, and_true, and_self]
  refine (new27_g (min a 60) w3).mono ?_
  rintro _ w6 ⟨rfl, hr6, hf6⟩
  simp only [isB_i, isK_i, isP_i, isTup_i, isInt_i, isSl_i, isPtr_i, isCs_i, isStr_i, isFn_i, isIf_i, rd_i, br_t, br_f, orO_s, orO_n, gd_t, bv_add, bv_sub, bv_mul, bv_eql, bv_neq, bv_lss, bv_leq, bv_gtr, bv_geq, bv_quo, bv_rem, bv_shl, bv_shr, bv_seq, bv_sne, bv_ptr, bv_if, bv_map, bv_nf, bv_bool, bv_sl, bv_fn, uv_not, uv_neg, eqV, nilV, nc_ptr, nc_fn, nc_if, Option.map_some, toN, Nat.mul_one, implies_true, true_and, and_true, and_self, Option.isNone_some]
  refine allocC_of fun w9 hb9 hs9 hf9 => ?_
  refine allocC_of fun w11 hb11 hs11 hf11 => ?_
  refine stC_one hb11 (by simp) rfl fun w12 hb12 hf12 => ?_
  have z1 := hf1.size
  have z3 := hf3.size
  have z6 := hr6.lt.1
  have z12 := hf12.size
  obtain ⟨M, hM⟩ : ∃ M, M = max (min a 60) 1 := ⟨_, rfl⟩
  obtain ⟨m, hm⟩ : ∃ m, m = min a 60 := ⟨_, rfl⟩
  rw [← hM] at hr6
  rw [← hm] at hb9 hM
  have hst : St W W.heap.size w9.heap.size w3.heap.size w6.heap.size M m [] none none (.tuple #[]) w12.heap.size w12 :=
    { ring := ((hr6.keep hf9 id fun _ e => by cases e).keep hf11 id fun _ e => by cases e).keep hf12 (by omega) fun _ e => by cases e
      ref := ⟨none, 0, 0, hf12.keep (hf11.keep hb9 id) (by omega), rfl, Nat.le_refl _, (fun _ e => by cases e), fun j x h => by cases j <;> cases h⟩
      gq := fun _ e => by cases e
      hg := fun _ e => by cases e
      hq := fun _ e => by cases e
      c0 := hf12.keep (hf11.keep (hf9.keep (hf6.keep (hf3.keep hb1 id) id) id) id) (by omega)
      c1 := hb12
      lo := by omega
      hi := by omega
      marks := ⟨[], rfl, List.nodup_nil, by simp⟩
      fm := ((((hf1.trans hf3).trans hf6).trans hf9).trans hf11).trans' hf12 fun i hi e => by omega
      nw := by omega }
  have hn0 : W.heap.size ≤ W.heap.size := Nat.le_refl _
  generalize hn10 : w9.heap.size = n10 at hst ⊢
  generalize hR : w3.heap.size = R at hst ⊢
  generalize hQ : w6.heap.size = Q at hst ⊢
  generalize hn0' : W.heap.size = n0 at hst ⊢
  clear hb1 hb9 hb11 hb12 hr6
  refine ⟨fun u w' => ∃ (k : Nat) (buf : List Int) (g q : Option Nat) (N : Nat), k ≤ bn ∧ u 8 = .int .i64 k ∧ St W n0 n10 R Q M m buf g q (u 1000000) N w', fun u _ => bn - (intOf (u 8)).toNat, ⟨0, [], none, none, _, by omega, rfl, hst⟩, ?_⟩
  clear hst
  rintro u w18 ⟨k, buf, g, q, N, hk, h8, hst⟩
  change u 8 = .int .i64 k at h8
  change St W n0 n10 R Q M m buf g q (u 1000000) N w18 at hst
  generalize hmk : u 1000000 = mk at hst ⊢
  simp only [h8, isB_i, isK_i, isP_i, isTup_i, isInt_i, isSl_i, isPtr_i, isCs_i, isStr_i, isFn_i, isIf_i, rd_i, br_t, br_f, orO_s, orO_n, gd_t, bv_add, bv_sub, bv_mul, bv_eql, bv_neq, bv_lss, bv_leq, bv_gtr, bv_geq, bv_quo, bv_rem, bv_shl, bv_shr, bv_seq, bv_sne, bv_ptr, bv_if, bv_map, bv_nf, bv_bool, bv_sl, bv_fn, uv_not, uv_neg, eqV, nilV, nc_ptr, nc_fn, nc_if, Option.map_some, toN, Nat.mul_one, implies_true, true_and, and_true, and_self]
  refine br_dec (fun hkn => ?_) (fun hkn => hst.fin fun w' h => ⟨rfl, h⟩)
  refine br_dec (fun hk100 => ?_) (fun hk100 => hst.fin fun w' h => ⟨rfl, h⟩)
  refine ⟨fun u' w' => ∃ (buf : List Int) (g q : Option Nat) (N : Nat), St W n0 n10 R Q M m buf g q (u' 1000000) N w', ?_, ?_⟩
  rotate_left
  · rintro u' w' ⟨buf', g', q', N', hst'⟩
    change St W n0 n10 R Q M m buf' g' q' (u' 1000000) N' w' at hst'
    rw [w64 (by omega)]
    refine ⟨⟨k + 1, buf', g', q', N', by omega, rfl, hst'⟩, ?_⟩
    show bn - ((k : Int) + 1).toNat < bn - (k : Int).toNat; omega
  obtain ⟨ad, rfl, hc⟩ := hl k (by omega)
  have hc18 := hst.fm.cell hc id
  simp only [hc18, isB_i, isK_i, isP_i, isTup_i, isInt_i, isSl_i, isPtr_i, isCs_i, isStr_i, isFn_i, isIf_i, rd_i, br_t, br_f, orO_s, orO_n, gd_t, bv_add, bv_sub, bv_mul, bv_eql, bv_neq, bv_lss, bv_leq, bv_gtr, bv_geq, bv_quo, bv_rem, bv_shl, bv_shr, bv_seq, bv_sne, bv_ptr, bv_if, bv_map, bv_nf, bv_bool, bv_sl, bv_fn, uv_not, uv_neg, eqV, nilV, nc_ptr, nc_fn, nc_if, Option.map_some, toN, Nat.mul_one, implies_true, true_and, and_true, and_self]
  refine ⟨by omega, ?_⟩
  have hle := hst.ring.le
  have hlo := hst.lo
  have hhi := hst.hi
  have hnw := hst.nw
  refine (push28_g (ss k) hst.ring (by omega) (by omega)).mono ?_
  rintro _ w28 ⟨rfl, ⟨g1, hr1, hg1⟩, hf28⟩
  have hS28 : ∀ i, (i = R ∨ g = some i) → W.heap.size ≤ i := fun i e => by
    rcases e with e | e
    · omega
    · exact (hst.hg i e).1
  have hcn : w28.cell? ⟨n10, 0, none⟩ = some (.pointer (some ⟨Q, 0, none⟩)) := hf28.cell hst.reads.1 fun e => by
    rcases e with e | e
    · have h1 := hst.c1; rw [show n10 = R from e] at h1; obtain ⟨c, h2⟩ := hst.ring.blocks.1; rw [h2] at h1; cases h1
    · obtain ⟨-, c, h2⟩ := hst.ring.blocks.2 _ e; have h1 := hst.c1; rw [h2] at h1; cases h1
  have hck : w28.cell? (ad.add k) = some (.int .i64 (ss k)) := (hst.fm.trans' hf28 fun i hi e => by have := hS28 i e; omega).cell hc id
  have hQ28 : RefG w28 Q m buf q := hst.ref.keep hf28 (fun e => by
    rcases e with e | e
    · obtain ⟨c, h2⟩ := hst.ring.blocks.1; obtain ⟨p, n, c', h1, -⟩ := hst.ref; rw [show Q = R from e, h2] at h1; cases h1
    · obtain ⟨-, c, h2⟩ := hst.ring.blocks.2 _ e; obtain ⟨p, n, c', h1, -⟩ := hst.ref; rw [h2] at h1; cases h1) fun i hi e => by
    rcases e with e | e
    · obtain ⟨p, n, c', h1, h2, h3, h4, h5⟩ := hst.ref
      obtain ⟨cur, h4⟩ := h4 i hi
      obtain ⟨c, h2⟩ := hst.ring.blocks.1; rw [show i = R from e, h2] at h4; cases h4
    · exact hst.gq i e hi
  obtain ⟨x1, t1, buf1, hv1, hv2, hr1', hb1⟩ : ∃ x1 t1 buf1, (if (buf.length : Int) < M then Value.tuple #[.int .i64 0, .bool false] else .tuple #[.int .i64 (buf.headD 0), .bool true]) = .tuple #[.int .i64 x1, .bool t1] ∧
      (if (buf.length : Int) + 1 ≤ max m 1 then Value.tuple #[.int .i64 0, .bool false] else .tuple #[.int .i64 ((buf ++ [ss k]).headD 0), .bool true]) = .tuple #[.int .i64 x1, .bool t1] ∧ RingG w28 R M buf1 g1 ∧ (if (buf.length : Int) + 1 ≤ max m 1 then buf ++ [ss k] else (buf ++ [ss k]).tail) = buf1 := by
    by_cases h : (buf.length : Int) < M
    · rw [if_pos h] at hr1
      exact ⟨_, _, _, by rw [if_pos h], by rw [if_pos (by omega)], hr1, by rw [if_pos (by omega)]⟩
    · rw [if_neg h] at hr1
      refine ⟨_, _, _, by rw [if_neg h], ?_, hr1, ?_⟩
      · rw [if_neg (by omega)]
        cases buf with
        | nil => simp at h; omega
        | cons y l => rfl
      · rw [if_neg (by omega)]
        cases buf with
        | nil => simp at h; omega
        | cons y l => rfl
  rw [hv1]
  clear hr1
  simp only [isB_i, isK_i, isP_i, isTup_i, isInt_i, isSl_i, isPtr_i, isCs_i, isStr_i, isFn_i, isIf_i, rd_i, br_t, br_f, orO_s, orO_n, gd_t, bv_add, bv_sub, bv_mul, bv_eql, bv_neq, bv_lss, bv_leq, bv_gtr, bv_geq, bv_quo, bv_rem, bv_shl, bv_shr, bv_seq, bv_sne, bv_ptr, bv_if, bv_map, bv_nf, bv_bool, bv_sl, bv_fn, uv_not, uv_neg, eqV, nilV, nc_ptr, nc_fn, nc_if, Option.map_some, toN, Nat.mul_one, implies_true, true_and, and_true, and_self, List.getElem?_cons_zero, List.getElem?_cons_succ, cell_drew]
  refine ⟨fun w' => w'.cell? ⟨n10, 0, none⟩ = some (.pointer (some ⟨Q, 0, none⟩)) ∧ w'.cell? (ad.add k) = some (.int .i64 (ss k)), ⟨hcn, hck⟩, ?_⟩
  simp only [hcn, hck, isB_i, isK_i, isP_i, isTup_i, isInt_i, isSl_i, isPtr_i, isCs_i, isStr_i, isFn_i, isIf_i, rd_i, br_t, br_f, orO_s, orO_n, gd_t, bv_add, bv_sub, bv_mul, bv_eql, bv_neq, bv_lss, bv_leq, bv_gtr, bv_geq, bv_quo, bv_rem, bv_shl, bv_shr, bv_seq, bv_sne, bv_ptr, bv_if, bv_map, bv_nf, bv_bool, bv_sl, bv_fn, uv_not, uv_neg, eqV, nilV, nc_ptr, nc_fn, nc_if, Option.map_some, toN, Nat.mul_one, implies_true, true_and, and_true, and_self]
  refine ⟨fun w' hw => rd_of hw.1 rfl, by omega, fun _ _ => by omega, fun w' hw => rd_of hw.2 rfl, ?_⟩
  have hd28 : Fm none' w28 w28.drew := Fm.drew w28
  refine (push29_c (ss k) (hQ28.keep hd28 id fun _ _ => id) (by omega)).mono ?_
  rintro _ w56 ⟨rfl, ⟨q1, hq1, b, rfl, hb⟩, hf56⟩
  rw [hv2]
  rw [hb1] at hq1
  have hb' : w28.heap.size ≤ b := hb
  have s28 := hf28.size
  have s56 : w28.heap.size ≤ w56.heap.size := hf56.size
  have t0 := hf28.keep hst.c0 (hst.notS hst.c0 (fun c e => by cases e) fun c e => by cases e)
  have t1' := hf28.keep hst.c1 (hst.notS hst.c1 (fun c e => by cases e) fun c e => by cases e)
  have hg1' : ∀ i, g1 = some i → W.heap.size ≤ i := fun i hi => by
    rcases hg1 with e | ⟨b', e, hb''⟩
    · exact (hst.hg i (e ▸ hi)).1
    · rw [e] at hi; cases hi; omega
  have hst1 : St W n0 n10 R Q M m buf1 g1 (some b) mk w56.heap.size w56 :=
    { ring := (hr1'.keep hd28 id fun _ _ => id).keep hf56 (hQ28.notQ hr1'.blocks.1.choose_spec fun c e => by cases e) fun i hi => hQ28.notQ (hr1'.blocks.2 i hi).2.choose_spec fun c e => by cases e
      ref := hq1
      gq := fun i hi e => by have := hr1'.lt.2 i hi; cases e; omega
      hg := fun i hi => ⟨hg1' i hi, by have := hr1'.lt.2 i hi; omega⟩
      hq := fun i hi => ⟨by cases hi; omega, (hq1.lt.2 i hi).1⟩
      c0 := hf56.keep (w := w28.drew) t0 (hQ28.notQ t0 fun c e => by cases e)
      c1 := hf56.keep (w := w28.drew) t1' (hQ28.notQ t1' fun c e => by cases e)
      lo := hst.lo
      hi := by omega
      marks := by
        obtain ⟨ds, h1, h2, h3⟩ := hst.marks
        refine ⟨ds, h1, h2, fun d hd => ?_⟩
        obtain ⟨h4, h5, h6⟩ := h3 d hd
        have h7 := hf28.keep h6 (hst.notS h6 (fun c e => by cases e) fun c e => by cases e)
        exact ⟨h4, by omega, hf56.keep (w := w28.drew) h7 (hQ28.notQ h7 fun c e => by cases e)⟩
      fm := ((hst.fm.trans' hf28 fun i hi e => by have := hS28 i e; omega).trans hd28).trans' hf56 fun i hi e => by omega
      nw := by omega }
  have hck56 := hst1.fm.cell hc id
  have hcn56 := hst1.reads.1
  refine ⟨⟨hcn56, hck56⟩, ?_⟩
  clear hst hr1' hq1 hQ28 t0 t1' hf28 hf56 hcn hck hd28
  generalize w56.heap.size = N1 at hst1
  simp only [isB_i, isK_i, isP_i, isTup_i, isInt_i, isSl_i, isPtr_i, isCs_i, isStr_i, isFn_i, isIf_i, rd_i, br_t, br_f, orO_s, orO_n, gd_t, bv_add, bv_sub, bv_mul, bv_eql, bv_neq, bv_lss, bv_leq, bv_gtr, bv_geq, bv_quo, bv_rem, bv_shl, bv_shr, bv_seq, bv_sne, bv_ptr, bv_if, bv_map, bv_nf, bv_bool, bv_sl, bv_fn, uv_not, uv_neg, eqV, nilV, nc_ptr, nc_fn, nc_if, Option.map_some, toN, Nat.mul_one, implies_true, true_and, and_true, and_self, List.getElem?_cons_zero, List.getElem?_cons_succ, cell_drew]
  refine ⟨fun _ w' => St W n0 n10 R Q M m buf1 g1 (some b) mk N1 w', ?_, ?_⟩
  · obtain ⟨p, c, hrd, -⟩ := hst1.reads.2
    refine ⟨fun w' => w'.cell? ⟨n10, 0, none⟩ = some (.pointer (some ⟨Q, 0, none⟩)) ∧ w'.cell? ⟨Q, 1, none⟩ = some (.slice p buf1.length c), ⟨hcn56, hrd⟩, ?_⟩
    refine br_ndec (fun h => (h trivial).elim) fun _ => ?_
    refine br_ndec (fun h => (h trivial).elim) fun _ => ?_
    simp only [hcn56, hrd, addr_add, Nat.zero_add, isB_i, isK_i, isP_i, isTup_i, isInt_i, isSl_i, isPtr_i, isCs_i, isStr_i, isFn_i, isIf_i, rd_i, br_t, br_f, orO_s, orO_n, gd_t, bv_add, bv_sub, bv_mul, bv_eql, bv_neq, bv_lss, bv_leq, bv_gtr, bv_geq, bv_quo, bv_rem, bv_shl, bv_shr, bv_seq, bv_sne, bv_ptr, bv_if, bv_map, bv_nf, bv_bool, bv_sl, bv_fn, uv_not, uv_neg, eqV, nilV, nc_ptr, nc_fn, nc_if, Option.map_some, toN, Nat.mul_one, implies_true, true_and, and_true, and_self]
    refine ⟨fun w' hw => rd_of hw.1 rfl, fun w' hw => rd_of hw.2 rfl, ?_⟩
    have hst1' := hst1.keep (Fm.drew w56) fun i e => e.elim
    refine (len30_g hst1'.ring).mono ?_
    rintro _ w136 ⟨rfl, rfl⟩
    simp only [isB_i, isK_i, isP_i, isTup_i, isInt_i, isSl_i, isPtr_i, isCs_i, isStr_i, isFn_i, isIf_i, rd_i, br_t, br_f, orO_s, orO_n, gd_t, bv_add, bv_sub, bv_mul, bv_eql, bv_neq, bv_lss, bv_leq, bv_gtr, bv_geq, bv_quo, bv_rem, bv_shl, bv_shr, bv_seq, bv_sne, bv_ptr, bv_if, bv_map, bv_nf, bv_bool, bv_sl, bv_fn, uv_not, uv_neg, eqV, nilV, nc_ptr, nc_fn, nc_if, Option.map_some, toN, Nat.mul_one, implies_true, true_and, and_true, and_self]
    refine ⟨⟨hcn56, hrd⟩, ?_⟩
    refine br_ndec (fun h => (h trivial).elim) fun _ => hst1'
  intro _ w147 hst2
  clear hst1 hck56 hcn56
  have hle1 := hst2.ring.le
  refine ⟨fun _ w' => St W n0 n10 R Q M m buf1 g1 (some b) mk N1 w', ?_, ?_⟩
  · refine ⟨fun u w' => ∃ j : Int, -1 ≤ j ∧ j ≤ buf1.length + 1 ∧ u 13 = .int .i64 j ∧ St W n0 n10 R Q M m buf1 g1 (some b) mk N1 w', fun u _ => ((buf1.length : Int) + 1 - intOf (u 13)).toNat, ⟨-1, by omega, by omega, rfl, hst2⟩, ?_⟩
    rintro u2 w153 ⟨j, hj1, hj2, hu, hst3⟩
    change u2 13 = .int .i64 j at hu
    obtain ⟨hrn, p, c, hrd, hrb⟩ := hst3.reads
    simp only [hu, hrn, hrd, addr_add, Nat.zero_add, isB_i, isK_i, isP_i, isTup_i, isInt_i, isSl_i, isPtr_i, isCs_i, isStr_i, isFn_i, isIf_i, rd_i, br_t, br_f, orO_s, orO_n, gd_t, bv_add, bv_sub, bv_mul, bv_eql, bv_neq, bv_lss, bv_leq, bv_gtr, bv_geq, bv_quo, bv_rem, bv_shl, bv_shr, bv_seq, bv_sne, bv_ptr, bv_if, bv_map, bv_nf, bv_bool, bv_sl, bv_fn, uv_not, uv_neg, eqV, nilV, nc_ptr, nc_fn, nc_if, Option.map_some, toN, Nat.mul_one, implies_true, true_and, and_true, and_self]
    refine br_dec (fun hjl => ?_) fun hjl => hst3
    refine ⟨fun _ w' => St W n0 n10 R Q M m buf1 g1 (some b) mk N1 w', ?_, ?_⟩
    · refine (at31_g j hst3.ring (by omega)).mono ?_
      rintro _ w167 ⟨rfl, hf167⟩
      have hst4 := hst3.keep hf167 fun i e => e.elim
      obtain ⟨x2, t2, hv3, hx2⟩ : ∃ x2 t2, (if 0 ≤ j ∧ j < (buf1.length : Int) then Value.tuple #[.int .i64 (buf1.getD j.toNat 0), .bool true] else .tuple #[.int .i64 0, .bool false]) = .tuple #[.int .i64 x2, .bool t2] ∧ (t2 = decide (0 ≤ j ∧ j < (buf1.length : Int)) ∧ (t2 = true → x2 = buf1.getD j.toNat 0) ∧ (t2 = false → x2 = 0)) := by
        by_cases h : 0 ≤ j ∧ j < (buf1.length : Int)
        · exact ⟨_, _, by rw [if_pos h], by simp [h], fun _ => rfl, fun h => by cases h⟩
        · exact ⟨_, _, by rw [if_neg h], by simp [h], (fun h => by cases h), fun _ => rfl⟩
      rw [hv3]
      simp only [isB_i, isK_i, isP_i, isTup_i, isInt_i, isSl_i, isPtr_i, isCs_i, isStr_i, isFn_i, isIf_i, rd_i, br_t, br_f, orO_s, orO_n, gd_t, bv_add, bv_sub, bv_mul, bv_eql, bv_neq, bv_lss, bv_leq, bv_gtr, bv_geq, bv_quo, bv_rem, bv_shl, bv_shr, bv_seq, bv_sne, bv_ptr, bv_if, bv_map, bv_nf, bv_bool, bv_sl, bv_fn, uv_not, uv_neg, eqV, nilV, nc_ptr, nc_fn, nc_if, Option.map_some, toN, Nat.mul_one, implies_true, true_and, and_true, and_self, List.getElem?_cons_zero, List.getElem?_cons_succ]
      refine ⟨fun u w' => u 16 = .bool t2 ∧ St W n0 n10 R Q M m buf1 g1 (some b) mk N1 w', ?_, ?_⟩
      · obtain ⟨hrn, p, c, hrd, -⟩ := hst4.reads
        refine br_dec (fun h0 => ?_) (fun h0 => ?_)
        · simp only [hrn, hrd, addr_add, Nat.zero_add, isB_i, isK_i, isP_i, isTup_i, isInt_i, isSl_i, isPtr_i, isCs_i, isStr_i, isFn_i, isIf_i, rd_i, br_t, br_f, orO_s, orO_n, gd_t, bv_add, bv_sub, bv_mul, bv_eql, bv_neq, bv_lss, bv_leq, bv_gtr, bv_geq, bv_quo, bv_rem, bv_shl, bv_shr, bv_seq, bv_sne, bv_ptr, bv_if, bv_map, bv_nf, bv_bool, bv_sl, bv_fn, uv_not, uv_neg, eqV, nilV, nc_ptr, nc_fn, nc_if, Option.map_some, toN, Nat.mul_one, implies_true, true_and, and_true, and_self]
          refine ⟨?_, hst4⟩
          show Value.bool _ = _
          rw [hx2.1]; simp [h0]
        · refine ⟨?_, hst4⟩
          show Value.bool _ = _
          rw [hx2.1]; simp [h0]
      rintro u3 w187 ⟨h16, hst5⟩
      change u3 16 = .bool t2 at h16
      obtain ⟨hrn, p, c, hrd, hrb⟩ := hst5.reads
      simp only [h16, isB_i, isK_i, isP_i, isTup_i, isInt_i, isSl_i, isPtr_i, isCs_i, isStr_i, isFn_i, isIf_i, rd_i, br_t, br_f, orO_s, orO_n, gd_t, bv_add, bv_sub, bv_mul, bv_eql, bv_neq, bv_lss, bv_leq, bv_gtr, bv_geq, bv_quo, bv_rem, bv_shl, bv_shr, bv_seq, bv_sne, bv_ptr, bv_if, bv_map, bv_nf, bv_bool, bv_sl, bv_fn, uv_not, uv_neg, eqV, nilV, nc_ptr, nc_fn, nc_if, Option.map_some, toN, Nat.mul_one, implies_true, true_and, and_true, and_self]
      refine br_ndec (fun h => (h trivial).elim) fun _ => ?_
      cases t2 with
      | true =>
        have hin : 0 ≤ j ∧ j < (buf1.length : Int) := by simpa using hx2.1.symm
        obtain ⟨i, o, hp, hcj⟩ := hrb j.toNat (buf1.getD j.toNat 0) (by rw [List.getD_eq_getElem?_getD, List.getElem?_eq_getElem (by omega)]; rfl)
        subst hp
        simp only [hrn, hrd, addr_add, Nat.zero_add, hcj, Bool.not_true, isB_i, isK_i, isP_i, isTup_i, isInt_i, isSl_i, isPtr_i, isCs_i, isStr_i, isFn_i, isIf_i, rd_i, br_t, br_f, orO_s, orO_n, gd_t, bv_add, bv_sub, bv_mul, bv_eql, bv_neq, bv_lss, bv_leq, bv_gtr, bv_geq, bv_quo, bv_rem, bv_shl, bv_shr, bv_seq, bv_sne, bv_ptr, bv_if, bv_map, bv_nf, bv_bool, bv_sl, bv_fn, uv_not, uv_neg, eqV, nilV, nc_ptr, nc_fn, nc_if, Option.map_some, toN, Nat.mul_one, implies_true, true_and, and_true, and_self]
        refine ⟨hin, ?_⟩
        refine br_ndec (fun h => absurd (hx2.2.1 rfl) h) fun _ => hst5
      | false =>
        simp only [Bool.not_false, isB_i, isK_i, isP_i, isTup_i, isInt_i, isSl_i, isPtr_i, isCs_i, isStr_i, isFn_i, isIf_i, rd_i, br_t, br_f, orO_s, orO_n, gd_t, bv_add, bv_sub, bv_mul, bv_eql, bv_neq, bv_lss, bv_leq, bv_gtr, bv_geq, bv_quo, bv_rem, bv_shl, bv_shr, bv_seq, bv_sne, bv_ptr, bv_if, bv_map, bv_nf, bv_bool, bv_sl, bv_fn, uv_not, uv_neg, eqV, nilV, nc_ptr, nc_fn, nc_if, Option.map_some, toN, Nat.mul_one, implies_true, true_and, and_true, and_self]
        exact br_ndec (fun h => absurd (hx2.2.2 rfl) h) fun _ => hst5
    · intro _ w219 hst6
      rw [w64 (by omega)]
      refine ⟨⟨j + 1, by omega, by omega, rfl, hst6⟩, ?_⟩
      show ((buf1.length : Int) + 1 - (j + 1)).toNat < ((buf1.length : Int) + 1 - j).toNat; omega
  intro _ w224 hst7
  refine allocC_of fun w227 hb227 hs227 hf227 => ?_
  refine stC_one hb227 (by simp) rfl fun w228 hb228 hf228 => ?_
  have hst8 := (hst7.keep hf227 fun i e => e.elim).keep hf228 fun i e => by have := hst7.nw; omega
  have hnN : N1 ≤ w224.heap.size := hst7.nw.2
  generalize hn226 : w224.heap.size = n226 at hb228 hf228 hnN ⊢
  refine ⟨fun u w' => ∃ N', St W n0 n10 R Q M m buf1 g1 (some b) (u 1000000) N' w' ∧ w'.cell? ⟨n226, 0, none⟩ = some (.int .i64 buf1.length), ?_, ?_⟩
  · refine (all32_g ⟨R, 0, none⟩ w228).mono ?_
    rintro _ w231 ⟨rfl, hb231, hs231, hf231⟩
    simp only [isB_i, isK_i, isP_i, isTup_i, isInt_i, isSl_i, isPtr_i, isCs_i, isStr_i, isFn_i, isIf_i, rd_i, br_t, br_f, orO_s, orO_n, gd_t, bv_add, bv_sub, bv_mul, bv_eql, bv_neq, bv_lss, bv_leq, bv_gtr, bv_geq, bv_quo, bv_rem, bv_shl, bv_shr, bv_seq, bv_sne, bv_ptr, bv_if, bv_map, bv_nf, bv_bool, bv_sl, bv_fn, uv_not, uv_neg, eqV, nilV, nc_ptr, nc_fn, nc_if, Option.map_some, toN, Nat.mul_one, implies_true, true_and, and_true, and_self, List.isEmpty_nil, Bool.and_true]
    refine rd_of rfl ?_
    refine rd_of rfl ?_
    have hst9 := hst8.keep hf231 fun i e => e.elim
    have hb226 := hf231.keep hb228 id
    have hlt226 := lt_of_blk hb226
    refine ⟨ent42, Int, fun y _ => .int .i64 y, KpC w231.heap.size fun i => i = n226, fun ys => ys = buf1, fun ys => ys <+: buf1, buf1.length,
      fun pre W' => Fm (fun i => i = n226) w231 W' ∧ W'.heap[n226]? = some (.cells #[.int .i64 pre.length] 3 (0, 0)) ∧ pre <+: buf1, fun _ pre _ => ¬ pre <+: buf1,
      seq42 hb231 hst9.ring (by omega) (by have := lt_of_blk hb228; omega) (by have := hst9.hi; omega) (fun i hi => by have := hst9.hg i hi; omega), KpC.t, KpC.b, ?_, fun _ _ _ _ _ h _ _ => h, ?_, ?_, ?_, fun D pre W1 _ hp hx _ => (hx hp).elim, fun _ h => by cases h⟩
    · rintro pre W1 W' row ⟨h1, h2, h3⟩ hg hr
      exact ⟨h1.row_below hg hr (Nat.le_refl _), (row_fm hg).keep h2 (row_ncell hr h2), h3⟩
    · exact ⟨Fm.refl _ _, hb226, List.nil_prefix⟩
    · rintro pre y W1 ⟨h1, h2, h3⟩ hlt
      have hst10 := hst9.keep h1 fun i e => by omega
      obtain ⟨hrn, p, c, hrd, hrb⟩ := hst10.reads
      have hk : KeepsFrom w231.heap.size W1 W1.drew := keeps_of (Fm.drew W1) fun _ h => h.elim
      have hcn : W1.cell? ⟨n226, 0, none⟩ = some (.int .i64 pre.length) := cellOf h2 rfl
      have hg : buf1[pre.length]? = some (buf1.getD pre.length 0) := by rw [List.getD_eq_getElem?_getD, List.getElem?_eq_getElem hlt]; rfl
      obtain ⟨i, o, hp, hcj⟩ := hrb pre.length _ hg
      subst hp
      simp only [cell_drew, hcn, hrn, hrd, addr_add, Nat.zero_add, hcj, isB_i, isK_i, isP_i, isTup_i, isInt_i, isSl_i, isPtr_i, isCs_i, isStr_i, isFn_i, isIf_i, rd_i, br_t, br_f, orO_s, orO_n, gd_t, bv_add, bv_sub, bv_mul, bv_eql, bv_neq, bv_lss, bv_leq, bv_gtr, bv_geq, bv_quo, bv_rem, bv_shl, bv_shr, bv_seq, bv_sne, bv_ptr, bv_if, bv_map, bv_nf, bv_bool, bv_sl, bv_fn, uv_not, uv_neg, eqV, nilV, nc_ptr, nc_fn, nc_if, Option.map_some, toN, Nat.mul_one, implies_true, true_and, and_true, and_self]
      refine br_dec (fun h => by omega) fun _ => ?_
      refine ⟨by omega, ?_⟩
      have h2' : W1.drew.heap[n226]? = some (.cells #[.int .i64 pre.length] 3 (0, 0)) := h2
      refine br_ndec (fun hne => ?_) (fun heq => ?_)
      · have h0' : W1.drew.heap[n0]? = _ := hst10.c0
        refine stC_one h0' (by simp) rfl fun w264 hw264 hf264 => ⟨keeps_of ((Fm.drew W1).none.trans hf264) fun i e => cells_at e hst10.c0, fun hpre => ?_⟩
        obtain ⟨tl, htl⟩ := hpre
        have := congrArg (fun l => l[pre.length]?) htl
        simp only [List.append_assoc, List.getElem?_append_right (Nat.le_refl _), Nat.sub_self] at this
        rw [hg] at this
        exact hne (Option.some.inj this)
      · rw [w64 (by omega)]
        refine stC_one h2' (by simp) rfl fun w267 hw267 hf267 => ?_
        have hfm : Fm (fun i => i = n226) W1 w267 := (Fm.drew W1).none.trans hf267
        refine ⟨keeps_of hfm fun i e => cells_at e h2, KpC.fm hfm fun i _ e => e, h1.trans hfm, ?_, ?_⟩
        · rw [hw267]; simp
        · obtain ⟨tl, htl⟩ := h3
          refine ⟨tl.tail, ?_⟩
          have := congrArg (fun l => l[pre.length]?) htl
          simp only [List.getElem?_append_right (Nat.le_refl _), Nat.sub_self] at this
          rw [hg] at this
          cases tl with
          | nil => simp at this
          | cons t tl =>
            simp only [List.getElem?_cons_zero, Option.some.injEq] at this
            rw [← htl, heq, this]; simp
    · rintro D ys W1 hD rfl ⟨h1, h2, -⟩ hd
      have hst10 := (hst9.keep h1 fun i e => by omega).push (D := D) (by have := hst9.nw; omega) hd
      exact ⟨_, hst10, cellOf h2 rfl⟩
  · rintro u4 w276 ⟨N', hst11, hc226⟩
    change St W n0 n10 R Q M m buf1 g1 (some b) (u4 1000000) N' w276 at hst11
    obtain ⟨hrn, p, c, hrd, hrb⟩ := hst11.reads
    simp only [cell_drew, hc226, hrn, hrd, addr_add, Nat.zero_add, isB_i, isK_i, isP_i, isTup_i, isInt_i, isSl_i, isPtr_i, isCs_i, isStr_i, isFn_i, isIf_i, rd_i, br_t, br_f, orO_s, orO_n, gd_t, bv_add, bv_sub, bv_mul, bv_eql, bv_neq, bv_lss, bv_leq, bv_gtr, bv_geq, bv_quo, bv_rem, bv_shl, bv_shr, bv_seq, bv_sne, bv_ptr, bv_if, bv_map, bv_nf, bv_bool, bv_sl, bv_fn, uv_not, uv_neg, eqV, nilV, nc_ptr, nc_fn, nc_if, Option.map_some, toN, Nat.mul_one, implies_true, true_and, and_true, and_self]
    refine br_ndec (fun h => (h trivial).elim) fun _ => ?_
    exact ⟨_, _, _, _, hst11.keep (Fm.drew w276) fun i e => e.elim⟩
end Go.Proofs.Ytlhgibiffekpfaa
