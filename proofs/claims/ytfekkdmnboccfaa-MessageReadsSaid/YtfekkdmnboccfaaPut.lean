/- bits: Put.  Conditions: the writer lies as it is said to lie. -/
import Derived.Test.YtfekkdmnboccfaaBits
namespace Go.Proofs.Ytfekkdmnboccfaa
set_option linter.unusedSimpArgs false
set_option linter.unusedVariables false
open Go Go.RowKit VC
variable {w : World} {base A : Nat} {T : TypeId} {x : Value} {bs : List Int} {g : Option Nat}
theorem grows {g g' : Option Nat} {n : Nat} (h : g' = g ∨ ∃ b, g' = some b ∧ n ≤ b) {n' : Nat} (hn : n' ≤ n) : g' = g ∨ ∃ b, g' = some b ∧ n' ≤ b := h.imp id fun ⟨b, h1, h2⟩ => ⟨b, h1, by omega⟩
set_option maxHeartbeats 1000000 in
set_option maxRecDepth 20000 in
theorem put21_c (n : Int) (k : Nat) (hk : k ≤ 64) (h : WrAt w base A T x bs g) (hlen : bs.length + k ≤ 1125899906842000) :
    callV Try.prog 21 [.pointer (some ⟨A, 0, none⟩), .int .u64 n, .int .i64 k] w fun v w' => v = .tuple #[] ∧ ∃ g', WrAt w' base A T x (bs ++ bitsOf n k) g' ∧ (g' = g ∨ ∃ b, g' = some b ∧ w.heap.size ≤ b) ∧ Fm (fun i => i = A ∨ g = some i) w w' := by
  have hAlt : A < w.heap.size := by obtain ⟨v, h1, _⟩ := h; exact lt_of_blk h1
  have hglt : ∀ i, g = some i → i < w.heap.size := fun i hi => by obtain ⟨_, c, t, hc⟩ := h.cellsG hi; exact lt_of_blk hc
  refine vc21 ⟨A, 0, none⟩ n k w _ ?_
  refine allocC_of fun w1 hb1 hs1 hf1 => ?_
  refine vc39 k w1 _ ?_
  simp only [isB_i, isK_i, isP_i, isTup_i, isInt_i, isSl_i, isPtr_i, isCs_i, isStr_i, isFn_i, isIf_i, rd_i, br_t, br_f, orO_s, orO_n, gd_t, bv_add, bv_sub, bv_mul, bv_eql, bv_neq, bv_lss, bv_leq, bv_gtr, bv_geq, bv_quo, bv_rem, bv_shl, bv_shr, bv_seq, bv_sne, bv_ptr, bv_if, bv_map, bv_nf, bv_bool, bv_sl, bv_fn, uv_not, uv_neg, eqV, nilV, nc_ptr, nc_fn, nc_if, Option.map_some, toN, Nat.mul_one, implies_true, true_and, and_true, and_self]
  rw [show max 0 (min (k : Int) 64) = k by omega]
  refine vc38 n k w1 _ ?_
  refine allocC_of fun w2 hb2 hs2 hf2 => ?_
  refine allocC_of fun w3 hb3 hs3 hf3 => ?_
  simp only [isB_i, isK_i, isP_i, isTup_i, isInt_i, isSl_i, isPtr_i, isCs_i, isStr_i, isFn_i, isIf_i, rd_i, br_t, br_f, orO_s, orO_n, gd_t, bv_add, bv_sub, bv_mul, bv_eql, bv_neq, bv_lss, bv_leq, bv_gtr, bv_geq, bv_quo, bv_rem, bv_shl, bv_shr, bv_seq, bv_sne, bv_ptr, bv_if, bv_map, bv_nf, bv_bool, bv_sl, bv_fn, uv_not, uv_neg, eqV, nilV, nc_ptr, nc_fn, nc_if, Option.map_some, toN, Nat.mul_one, implies_true, true_and, and_true, and_self]
  refine rd_of rfl ?_
  refine rd_of rfl ?_
  have hf13 := (hf1.trans hf2).trans hf3
  have hb3' := hf3.keep hb2 id
  have hbx := (hf2.trans hf3).keep hb1 id
  refine ⟨ent59, Int, fun y _ => .int .u8 y, KpB fun i => i = w2.heap.size ∨ i = w1.heap.size, fun ys => ys = bitsOf n k, fun ys => ys <+: bitsOf n k, k,
    fun pre W => (∃ g', WrAt W base A T x (bs ++ pre) g' ∧ (g' = g ∨ ∃ b, g' = some b ∧ w.heap.size ≤ b) ∧ (∀ i, g' = some i → i < w.heap.size ∨ w3.heap.size ≤ i) ∧ w3.heap.size ≤ W.heap.size) ∧ W.heap[w.heap.size]? = some (.cells #[.pointer (some ⟨A, 0, none⟩)] 83 (0, 0)) ∧ Fm (fun i => i = A ∨ g = some i) w W,
    fun _ _ _ => False, seq59 hb3 hb3' hk, KpB.t, KpB.b (by rintro i (rfl | rfl) <;> omega), ?_, fun _ _ _ _ _ h _ _ => h, ?_, ?_, ?_, fun _ _ _ _ _ h _ => h.elim, fun _ h => by cases h⟩
  · rintro pre W W' row ⟨⟨g', h1, h2, h3, h6⟩, h4, h5⟩ hg hr
    have hfm := row_fm hg
    have hA' : ¬ row = some A := by obtain ⟨v, hv, _⟩ := h1; exact row_ncell hr hv
    refine ⟨⟨g', h1.keep hfm hA' fun i hi => ?_, h2, h3, Nat.le_trans h6 hfm.size⟩, hfm.keep h4 (row_ncell hr h4), h5.trans' hfm fun i hi e => ?_⟩
    · obtain ⟨_, c, t, hc⟩ := h1.cellsG hi
      exact row_ncell hr hc
    · have := (hr i e).1; omega
  · refine ⟨⟨g, ?_, .inl rfl, fun i hi => .inl (hglt i hi), Nat.le_refl _⟩, hbx, hf13.none⟩
    rw [List.append_nil]
    exact h.keep hf13 id fun _ _ y => y
  · rintro pre y W ⟨⟨g', hW, hg', hgb0, hW3⟩, hbox, hF⟩ hlt
    have hgb : ∀ i, g' = some i → i ≠ w.heap.size := fun i hi => by have := hgb0 i hi; omega
    obtain ⟨v0, hA, hown, hvg, hgA, hbase⟩ := hW
    have hWlt := lt_of_blk hbox
    have hAx : A ≠ w.heap.size := by omega
    have hm : (bs ++ pre).length ≤ 1125899906842000 := by simp; omega
    obtain ⟨m, hmm⟩ : ∃ m, m = (bs ++ pre).length := ⟨_, rfl⟩
    rw [← hmm] at hA hm
    have hpl := pack_length (bs ++ pre)
    rw [← hmm] at hpl
    have htm : Int.tmod (m : Int) 8 = ((m % 8 : Nat) : Int) := by rw [Int.tmod_eq_emod_of_nonneg (by omega)]; omega
    have htd : Int.tdiv (m : Int) 8 = ((m / 8 : Nat) : Int) := by rw [Int.tdiv_eq_ediv_of_nonneg (by omega)]; omega
    obtain ⟨p0, cp0, rfl, -⟩ := own_read hown
    refine ⟨fun _ W' => ∃ v1 g1, W'.heap[A]? = some (.cells #[v1, .int .i64 m, x] T (0, 0)) ∧ W'.ownsRow base 5 1 v1 (m / 8 + 1) ((if m % 8 = 0 then pack (bs ++ pre) ++ [0] else pack (bs ++ pre)).map (Value.int .u8)) ∧ v1.ownBlock = g1 ∧ g1 ≠ some A ∧
      (g1 = g' ∨ ∃ b, g1 = some b ∧ W.heap.size ≤ b) ∧ Fm (fun i => i = A ∨ g' = some i) W W', ?_, ?_⟩
    · refine rd_of (v := .pointer (some ⟨A, 0, none⟩)) (cellOf hbox rfl) ?_
      simp only [isB_i, isK_i, isP_i, isTup_i, isInt_i, isSl_i, isPtr_i, isCs_i, isStr_i, isFn_i, isIf_i, rd_i, br_t, br_f, orO_s, orO_n, gd_t, bv_add, bv_sub, bv_mul, bv_eql, bv_neq, bv_lss, bv_leq, bv_gtr, bv_geq, bv_quo, bv_rem, bv_shl, bv_shr, bv_seq, bv_sne, bv_ptr, bv_if, bv_map, bv_nf, bv_bool, bv_sl, bv_fn, uv_not, uv_neg, eqV, nilV, nc_ptr, nc_fn, nc_if, Option.map_some, toN, Nat.mul_one, implies_true, true_and, and_true, and_self]
      refine rd_of (v := .int .i64 m) (cellOf hA rfl) ?_
      simp only [isB_i, isK_i, isP_i, isTup_i, isInt_i, isSl_i, isPtr_i, isCs_i, isStr_i, isFn_i, isIf_i, rd_i, br_t, br_f, orO_s, orO_n, gd_t, bv_add, bv_sub, bv_mul, bv_eql, bv_neq, bv_lss, bv_leq, bv_gtr, bv_geq, bv_quo, bv_rem, bv_shl, bv_shr, bv_seq, bv_sne, bv_ptr, bv_if, bv_map, bv_nf, bv_bool, bv_sl, bv_fn, uv_not, uv_neg, eqV, nilV, nc_ptr, nc_fn, nc_if, Option.map_some, toN, Nat.mul_one, implies_true, true_and, and_true, and_self, htm]
      refine br_dec (fun hm8 => ?_) (fun hm8 => ?_)
      · have hm8' : m % 8 = 0 := by omega
        have hbox' : W.drew.heap[w.heap.size]? = some (.cells #[.pointer (some ⟨A, 0, none⟩)] 83 (0, 0)) := hbox
        have hA' : W.drew.heap[A]? = _ := hA
        refine ⟨fun w' => w'.heap[w.heap.size]? = some (.cells #[.pointer (some ⟨A, 0, none⟩)] 83 (0, 0)), hbox', ?_⟩
        have bx : ∀ {K : Value → Prop} (w' : World), w'.heap[w.heap.size]? = some (.cells #[.pointer (some ⟨A, 0, none⟩)] 83 (0, 0)) → K (.pointer (some ⟨A, 0, none⟩)) → rd (w'.cell? ⟨w.heap.size, 0, none⟩) K := fun w' hw k => rd_of (cellOf hw rfl) k
        refine bx _ hbox' ⟨fun w' hw => bx w' hw rfl, ?_⟩
        simp only [isB_i, isK_i, isP_i, isTup_i, isInt_i, isSl_i, isPtr_i, isCs_i, isStr_i, isFn_i, isIf_i, rd_i, br_t, br_f, orO_s, orO_n, gd_t, bv_add, bv_sub, bv_mul, bv_eql, bv_neq, bv_lss, bv_leq, bv_gtr, bv_geq, bv_quo, bv_rem, bv_shl, bv_shr, bv_seq, bv_sne, bv_ptr, bv_if, bv_map, bv_nf, bv_bool, bv_sl, bv_fn, uv_not, uv_neg, eqV, nilV, nc_ptr, nc_fn, nc_if, Option.map_some, toN, Nat.mul_one, implies_true, true_and, and_true, and_self]
        refine bx _ hbox' ⟨fun w' hw => bx w' hw rfl, ?_⟩
        simp only [isB_i, isK_i, isP_i, isTup_i, isInt_i, isSl_i, isPtr_i, isCs_i, isStr_i, isFn_i, isIf_i, rd_i, br_t, br_f, orO_s, orO_n, gd_t, bv_add, bv_sub, bv_mul, bv_eql, bv_neq, bv_lss, bv_leq, bv_gtr, bv_geq, bv_quo, bv_rem, bv_shl, bv_shr, bv_seq, bv_sne, bv_ptr, bv_if, bv_map, bv_nf, bv_bool, bv_sl, bv_fn, uv_not, uv_neg, eqV, nilV, nc_ptr, nc_fn, nc_if, Option.map_some, toN, Nat.mul_one, implies_true, true_and, and_true, and_self]
        have hq : ∀ (w50 : World) (v50 : Value), w50.ownsRow base 5 1 v50 ((pack (bs ++ pre)).length + 1) ((pack (bs ++ pre)).map (Value.int .u8) ++ [.int .u8 0]) → Fm (fun i => g' = some i) W w50 → (v50.ownBlock = g' ∨ ∃ b, v50.ownBlock = some b ∧ W.heap.size ≤ b) →
            isSl v50 fun o51 n52 n53 => w50.heap[w.heap.size]? = some (.cells #[.pointer (some ⟨A, 0, none⟩)] 83 (0, 0)) ∧ stC w50 ⟨A, 0, none⟩ [.slice o51 n52 n53] fun w62 => w62.heap[w.heap.size]? = some (.cells #[.pointer (some ⟨A, 0, none⟩)] 83 (0, 0)) ∧
              ∃ v1 g1, w62.heap[A]? = some (.cells #[v1, .int .i64 m, x] T (0, 0)) ∧ w62.ownsRow base 5 1 v1 (m / 8 + 1) ((if m % 8 = 0 then pack (bs ++ pre) ++ [0] else pack (bs ++ pre)).map (Value.int .u8)) ∧ v1.ownBlock = g1 ∧ g1 ≠ some A ∧
                (g1 = g' ∨ ∃ b, g1 = some b ∧ W.heap.size ≤ b) ∧ Fm (fun i => i = A ∨ g' = some i) W w62 := by
          intro w50 v50 hr50 hf50 hg50
          obtain ⟨p5, cp5, rfl, -⟩ := own_read hr50
          have hne5 : (Value.slice p5 ((pack (bs ++ pre)).length + 1) cp5).ownBlock ≠ some A := by
            rcases hg50 with e | ⟨b, e, hb⟩
            · rw [e]; exact hgA
            · rw [e]; intro h; cases h; omega
          have hA50 := hf50.keep hA hgA
          have hbox50 := hf50.keep hbox (fun e => hgb _ e rfl)
          refine ⟨hbox50, stC_one hA50 (by simp) rfl fun w62 hA62 hf62 => ?_⟩
          refine ⟨hf62.keep hbox50 (by omega), _, _, hA62, ?_, rfl, hne5, hg50, ?_⟩
          · rw [if_pos hm8', show m / 8 + 1 = (pack (bs ++ pre)).length + 1 by omega, List.map_append]
            exact hf62.owns hr50 fun i hi e => hne5 (e ▸ hi)
          · exact (hf50.mono fun i _ e => .inr e).trans (hf62.mono fun i _ e => .inl e)
        constructor
        · refine rd_of (v := .slice p0 (pack (bs ++ pre)).length cp0) (cellOf hA' rfl) ?_
          simp only [isB_i, isK_i, isP_i, isTup_i, isInt_i, isSl_i, isPtr_i, isCs_i, isStr_i, isFn_i, isIf_i, rd_i, br_t, br_f, orO_s, orO_n, gd_t, bv_add, bv_sub, bv_mul, bv_eql, bv_neq, bv_lss, bv_leq, bv_gtr, bv_geq, bv_quo, bv_rem, bv_shl, bv_shr, bv_seq, bv_sne, bv_ptr, bv_if, bv_map, bv_nf, bv_bool, bv_sl, bv_fn, uv_not, uv_neg, eqV, nilV, nc_ptr, nc_fn, nc_if, Option.map_some, toN, Nat.mul_one, implies_true, true_and, and_true, and_self]
          refine ⟨hbox', build_1 (by rw [row25]) row5 rfl rfl fun w45 hb45 hs45 hf45 => ?_⟩
          have hf45' : Fm none' W w45 := (Fm.drew W).trans hf45
          have hs45' : W.heap.size ≤ w45.heap.size := hf45'.size
          refine ⟨hf45'.keep hbox id, ?_⟩
          refine append_at (news := [.int .u8 0]) (by rw [row25]) row5 rfl (hf45'.owns hown fun _ _ y => y) rfl (fun j u hj => ?_) (by simp [Value.oneCell']) (Nat.le_trans hbase hs45') (by simp only [maxLen]; omega) (by omega) fun v50 w50 hr50 hf50 hbk => ?_
          · cases j with
            | zero => simp at hj; subst hj; rw [addr_add]; exact cellOf hb45 rfl
            | succ j => simp at hj
          · exact hq w50 v50 hr50 (hf45'.none.trans (hf50.mono fun i _ e => hvg ▸ e)) (hbk.imp (fun e => e.trans hvg) fun e => ⟨_, e, hs45'⟩)
        · refine build_1 (by rw [row25]) row5 rfl rfl fun w45 hb45 hs45 hf45 => ?_
          have hf45' : Fm none' W w45 := (Fm.drew W).trans hf45
          have hs45' : W.heap.size ≤ w45.heap.size := hf45'.size
          refine ⟨hf45'.keep hbox id, rd_of (v := .slice p0 (pack (bs ++ pre)).length cp0) (cellOf (hf45'.keep hA id) rfl) ?_⟩
          simp only [isB_i, isK_i, isP_i, isTup_i, isInt_i, isSl_i, isPtr_i, isCs_i, isStr_i, isFn_i, isIf_i, rd_i, br_t, br_f, orO_s, orO_n, gd_t, bv_add, bv_sub, bv_mul, bv_eql, bv_neq, bv_lss, bv_leq, bv_gtr, bv_geq, bv_quo, bv_rem, bv_shl, bv_shr, bv_seq, bv_sne, bv_ptr, bv_if, bv_map, bv_nf, bv_bool, bv_sl, bv_fn, uv_not, uv_neg, eqV, nilV, nc_ptr, nc_fn, nc_if, Option.map_some, toN, Nat.mul_one, implies_true, true_and, and_true, and_self]
          refine ⟨hf45'.keep hbox id, ?_⟩
          refine append_at (news := [.int .u8 0]) (by rw [row25]) row5 rfl (hf45'.owns hown fun _ _ y => y) rfl (fun j u hj => ?_) (by simp [Value.oneCell']) (Nat.le_trans hbase hs45') (by simp only [maxLen]; omega) (by omega) fun v50 w50 hr50 hf50 hbk => ?_
          · cases j with
            | zero => simp at hj; subst hj; rw [addr_add]; exact cellOf hb45 rfl
            | succ j => simp at hj
          · exact hq w50 v50 hr50 (hf45'.none.trans (hf50.mono fun i _ e => hvg ▸ e)) (hbk.imp (fun e => e.trans hvg) fun e => ⟨_, e, hs45'⟩)
      · refine ⟨_, g', hA, ?_, hvg, hgA, .inl rfl, Fm.refl _ _⟩
        have hm8' : ¬ m % 8 = 0 := by omega
        rw [if_neg hm8', show m / 8 + 1 = (pack (bs ++ pre)).length by omega]
        exact hown
    rintro u87 w88 ⟨v1, g1, hA1, hown1, hv1, hg1A, hg1, hF1⟩
    have hbox1 := hF1.keep hbox (by rintro (e | e); omega; exact hgb _ e rfl)
    obtain ⟨ys, hys⟩ : ∃ ys, ys = (if m % 8 = 0 then pack (bs ++ pre) ++ [0] else pack (bs ++ pre)) := ⟨_, rfl⟩
    rw [← hys] at hown1
    have hyl : ys.length = m / 8 + 1 := by
      rw [hys]; split
      · simp; omega
      · omega
    obtain ⟨p1, cp1, rfl, hread1⟩ := own_read hown1
    obtain ⟨gg, rfl, hbg, hgb1, hcell⟩ := hread1 (m / 8) (.int .u8 (ys.getD (m / 8) 0)) (by
      rw [List.getElem?_map, List.getElem?_eq_getElem (by omega), List.getD_eq_getElem?_getD, List.getElem?_eq_getElem (by omega)]; rfl)
    have hg1' : g1 = some gg := hv1.symm.trans hgb1
    have hggA : gg ≠ A := fun e => hg1A (by rw [hg1', e])
    have hggW : g' = some gg ∨ W.heap.size ≤ gg := hg1.imp (fun e => e.symm.trans hg1') fun ⟨b, e, hb⟩ => by rw [hg1'] at e; cases e; exact hb
    have hggb : gg ≠ w.heap.size := by
      rcases hggW with e | e
      · exact hgb _ e
      · omega
    rw [addr_add, Nat.zero_add] at hcell
    have bx : ∀ {K : Value → Prop} (w' : World), w'.heap[w.heap.size]? = some (.cells #[.pointer (some ⟨A, 0, none⟩)] 83 (0, 0)) → K (.pointer (some ⟨A, 0, none⟩)) → rd (w'.cell? ⟨w.heap.size, 0, none⟩) K := fun w' hw k => rd_of (cellOf hw rfl) k
    have hbox1' : w88.drew.heap[w.heap.size]? = some (.cells #[.pointer (some ⟨A, 0, none⟩)] 83 (0, 0)) := hbox1
    have hA1' : w88.drew.heap[A]? = some (.cells #[.slice (some ⟨gg, 0, none⟩) (m / 8 + 1) cp1, .int .i64 m, x] T (0, 0)) := hA1
    have hcell' : w88.drew.cell? ⟨gg, m / 8, none⟩ = _ := hcell
    refine ⟨fun w' => w'.heap[w.heap.size]? = some (.cells #[.pointer (some ⟨A, 0, none⟩)] 83 (0, 0)) ∧ w'.heap[A]? = some (.cells #[.slice (some ⟨gg, 0, none⟩) (m / 8 + 1) cp1, .int .i64 m, x] T (0, 0)), ⟨hbox1', hA1'⟩, ?_⟩
    refine bx _ hbox1' ⟨fun w' hw => bx w' hw.1 rfl, ?_⟩
    simp only [isB_i, isK_i, isP_i, isTup_i, isInt_i, isSl_i, isPtr_i, isCs_i, isStr_i, isFn_i, isIf_i, rd_i, br_t, br_f, orO_s, orO_n, gd_t, bv_add, bv_sub, bv_mul, bv_eql, bv_neq, bv_lss, bv_leq, bv_gtr, bv_geq, bv_quo, bv_rem, bv_shl, bv_shr, bv_seq, bv_sne, bv_ptr, bv_if, bv_map, bv_nf, bv_bool, bv_sl, bv_fn, uv_not, uv_neg, eqV, nilV, nc_ptr, nc_fn, nc_if, Option.map_some, toN, Nat.mul_one, implies_true, true_and, and_true, and_self]
    refine rd_of (v := .slice (some ⟨gg, 0, none⟩) (m / 8 + 1) cp1) (cellOf hA1' rfl) ⟨fun w' hw => rd_of (cellOf hw.2 rfl) rfl, ?_⟩
    simp only [isB_i, isK_i, isP_i, isTup_i, isInt_i, isSl_i, isPtr_i, isCs_i, isStr_i, isFn_i, isIf_i, rd_i, br_t, br_f, orO_s, orO_n, gd_t, bv_add, bv_sub, bv_mul, bv_eql, bv_neq, bv_lss, bv_leq, bv_gtr, bv_geq, bv_quo, bv_rem, bv_shl, bv_shr, bv_seq, bv_sne, bv_ptr, bv_if, bv_map, bv_nf, bv_bool, bv_sl, bv_fn, uv_not, uv_neg, eqV, nilV, nc_ptr, nc_fn, nc_if, Option.map_some, toN, Nat.mul_one, implies_true, true_and, and_true, and_self]
    refine bx _ hbox1' ⟨fun w' hw => bx w' hw.1 rfl, ?_⟩
    simp only [isB_i, isK_i, isP_i, isTup_i, isInt_i, isSl_i, isPtr_i, isCs_i, isStr_i, isFn_i, isIf_i, rd_i, br_t, br_f, orO_s, orO_n, gd_t, bv_add, bv_sub, bv_mul, bv_eql, bv_neq, bv_lss, bv_leq, bv_gtr, bv_geq, bv_quo, bv_rem, bv_shl, bv_shr, bv_seq, bv_sne, bv_ptr, bv_if, bv_map, bv_nf, bv_bool, bv_sl, bv_fn, uv_not, uv_neg, eqV, nilV, nc_ptr, nc_fn, nc_if, Option.map_some, toN, Nat.mul_one, implies_true, true_and, and_true, and_self, addr_add, Nat.zero_add]
    refine rd_of (v := .int .i64 m) (cellOf hA1' rfl) ⟨fun w' hw => rd_of (cellOf hw.2 rfl) rfl, ?_⟩
    simp only [isB_i, isK_i, isP_i, isTup_i, isInt_i, isSl_i, isPtr_i, isCs_i, isStr_i, isFn_i, isIf_i, rd_i, br_t, br_f, orO_s, orO_n, gd_t, bv_add, bv_sub, bv_mul, bv_eql, bv_neq, bv_lss, bv_leq, bv_gtr, bv_geq, bv_quo, bv_rem, bv_shl, bv_shr, bv_seq, bv_sne, bv_ptr, bv_if, bv_map, bv_nf, bv_bool, bv_sl, bv_fn, uv_not, uv_neg, eqV, nilV, nc_ptr, nc_fn, nc_if, Option.map_some, toN, Nat.mul_one, implies_true, true_and, and_true, and_self, addr_add, Nat.zero_add, htd]
    rw [w64 (by omega)]
    simp only [isB_i, isK_i, isP_i, isTup_i, isInt_i, isSl_i, isPtr_i, isCs_i, isStr_i, isFn_i, isIf_i, rd_i, br_t, br_f, orO_s, orO_n, gd_t, bv_add, bv_sub, bv_mul, bv_eql, bv_neq, bv_lss, bv_leq, bv_gtr, bv_geq, bv_quo, bv_rem, bv_shl, bv_shr, bv_seq, bv_sne, bv_ptr, bv_if, bv_map, bv_nf, bv_bool, bv_sl, bv_fn, uv_not, uv_neg, eqV, nilV, nc_ptr, nc_fn, nc_if, Option.map_some, toN, Nat.mul_one, implies_true, true_and, and_true, and_self]
    refine ⟨by omega, fun _ _ => by omega, ?_⟩
    refine bx _ hbox1' ⟨fun w' hw => bx w' hw.1 rfl, ?_⟩
    simp only [isB_i, isK_i, isP_i, isTup_i, isInt_i, isSl_i, isPtr_i, isCs_i, isStr_i, isFn_i, isIf_i, rd_i, br_t, br_f, orO_s, orO_n, gd_t, bv_add, bv_sub, bv_mul, bv_eql, bv_neq, bv_lss, bv_leq, bv_gtr, bv_geq, bv_quo, bv_rem, bv_shl, bv_shr, bv_seq, bv_sne, bv_ptr, bv_if, bv_map, bv_nf, bv_bool, bv_sl, bv_fn, uv_not, uv_neg, eqV, nilV, nc_ptr, nc_fn, nc_if, Option.map_some, toN, Nat.mul_one, implies_true, true_and, and_true, and_self, addr_add, Nat.zero_add]
    refine rd_of (v := .int .i64 m) (cellOf hA1' rfl) ⟨fun w' hw => rd_of (cellOf hw.2 rfl) rfl, ?_⟩
    simp only [isB_i, isK_i, isP_i, isTup_i, isInt_i, isSl_i, isPtr_i, isCs_i, isStr_i, isFn_i, isIf_i, rd_i, br_t, br_f, orO_s, orO_n, gd_t, bv_add, bv_sub, bv_mul, bv_eql, bv_neq, bv_lss, bv_leq, bv_gtr, bv_geq, bv_quo, bv_rem, bv_shl, bv_shr, bv_seq, bv_sne, bv_ptr, bv_if, bv_map, bv_nf, bv_bool, bv_sl, bv_fn, uv_not, uv_neg, eqV, nilV, nc_ptr, nc_fn, nc_if, Option.map_some, toN, Nat.mul_one, implies_true, true_and, and_true, and_self, htm]
    rw [w64 (by omega), show ((7 : Int) - ((m % 8 : Nat) : Int)) = ((7 - m % 8 : Nat) : Int) by omega]
    simp only [isB_i, isK_i, isP_i, isTup_i, isInt_i, isSl_i, isPtr_i, isCs_i, isStr_i, isFn_i, isIf_i, rd_i, br_t, br_f, orO_s, orO_n, gd_t, bv_add, bv_sub, bv_mul, bv_eql, bv_neq, bv_lss, bv_leq, bv_gtr, bv_geq, bv_quo, bv_rem, bv_shl, bv_shr, bv_seq, bv_sne, bv_ptr, bv_if, bv_map, bv_nf, bv_bool, bv_sl, bv_fn, uv_not, uv_neg, eqV, nilV, nc_ptr, nc_fn, nc_if, Option.map_some, toN, Nat.mul_one, implies_true, true_and, and_true, and_self]
    refine rd_of hcell' ?_
    simp only [isB_i, isK_i, isP_i, isTup_i, isInt_i, isSl_i, isPtr_i, isCs_i, isStr_i, isFn_i, isIf_i, rd_i, br_t, br_f, orO_s, orO_n, gd_t, bv_add, bv_sub, bv_mul, bv_eql, bv_neq, bv_lss, bv_leq, bv_gtr, bv_geq, bv_quo, bv_rem, bv_shl, bv_shr, bv_seq, bv_sne, bv_ptr, bv_if, bv_map, bv_nf, bv_bool, bv_sl, bv_fn, uv_not, uv_neg, eqV, nilV, nc_ptr, nc_fn, nc_if, Option.map_some, toN, Nat.mul_one, implies_true, true_and, and_true, and_self]
    refine ⟨⟨hbox1', hA1'⟩, by omega, fun _ _ => by omega, ?_⟩
    rw [show min (7 - m % 8) IntKind.u8.bits = 7 - m % 8 from Nat.min_eq_left (by have : IntKind.u8.bits = 8 := rfl; omega)]
    have hown1d := (Fm.drew w88).owns hown1 fun _ _ y => y
    obtain ⟨g2, c2, hg2, hst⟩ := own_set (KK := fun w173 => (w173.heap[w.heap.size]? = some (.cells #[.pointer (some ⟨A, 0, none⟩)] 83 (0, 0)) ∧ w173.heap[A]? = some (.cells #[.slice (some ⟨gg, 0, none⟩) (m / 8 + 1) cp1, .int .i64 m, x] T (0, 0))) ∧ _) hown1d (j := m / 8) (x := .int .u8 (orI IntKind.u8 (ys.getD (m / 8) 0) (IntKind.u8.wrap (y * 2 ^ (7 - m % 8))))) (by omega) rfl
    cases hg2
    rw [addr_add, Nat.zero_add] at hst
    refine hst fun w173 hown173 hf173 => ?_
    have hbox173 := hf173.keep hbox1' (fun e => hggb e.symm)
    have hA173 := hf173.keep hA1' (fun e => hggA e.symm)
    refine ⟨⟨hbox173, hA173⟩, ?_⟩
    refine bx _ hbox173 ?_
    simp only [isB_i, isK_i, isP_i, isTup_i, isInt_i, isSl_i, isPtr_i, isCs_i, isStr_i, isFn_i, isIf_i, rd_i, br_t, br_f, orO_s, orO_n, gd_t, bv_add, bv_sub, bv_mul, bv_eql, bv_neq, bv_lss, bv_leq, bv_gtr, bv_geq, bv_quo, bv_rem, bv_shl, bv_shr, bv_seq, bv_sne, bv_ptr, bv_if, bv_map, bv_nf, bv_bool, bv_sl, bv_fn, uv_not, uv_neg, eqV, nilV, nc_ptr, nc_fn, nc_if, Option.map_some, toN, Nat.mul_one, implies_true, true_and, and_true, and_self, addr_add, Nat.zero_add]
    refine rd_of (v := .int .i64 m) (cellOf hA173 rfl) ?_
    simp only [isB_i, isK_i, isP_i, isTup_i, isInt_i, isSl_i, isPtr_i, isCs_i, isStr_i, isFn_i, isIf_i, rd_i, br_t, br_f, orO_s, orO_n, gd_t, bv_add, bv_sub, bv_mul, bv_eql, bv_neq, bv_lss, bv_leq, bv_gtr, bv_geq, bv_quo, bv_rem, bv_shl, bv_shr, bv_seq, bv_sne, bv_ptr, bv_if, bv_map, bv_nf, bv_bool, bv_sl, bv_fn, uv_not, uv_neg, eqV, nilV, nc_ptr, nc_fn, nc_if, Option.map_some, toN, Nat.mul_one, implies_true, true_and, and_true, and_self, addr_add, Nat.zero_add]
    rw [w64 (by omega)]
    refine stC_one hA173 (by simp) rfl fun w182 hA182 hf182 => ?_
    have hgA2 : some gg ≠ some A := fun e => hggA (Option.some.inj e)
    have hFall : Fm (fun i => i = A ∨ g' = some i) W w182 := by
      refine ((hF1.trans (Fm.drew w88).none).trans' hf173 ?_).trans' hf182 ?_
      · rintro i hi rfl
        rcases hggW with e | e
        · exact .inr e
        · omega
      · rintro i hi rfl; exact .inl rfl
    have hpk : (pack (bs ++ (pre ++ [y]))) = ys.set (m / 8) (orI .u8 (ys.getD (m / 8) 0) (IntKind.u8.wrap (y * 2 ^ (7 - m % 8)))) := by
      rw [← List.append_assoc, pack_snoc, ← hmm, hys]; rfl
    refine ⟨keeps_of hFall ?_, KpB.fm hFall ?_, ⟨some gg, ⟨.slice (some ⟨gg, 0, none⟩) (m / 8 + 1) cp1, ?_, ?_, rfl, hgA2, ?_⟩, ?_, ?_, ?_⟩, ?_, ?_⟩
    · rintro i (rfl | e)
      · exact ⟨_, _, _, hA⟩
      · obtain ⟨_, cur, hc⟩ := own_block hown (hvg.trans e)
        exact ⟨_, _, _, hc⟩
    · rintro i hi (rfl | e)
      · omega
      · have := hgb0 i e; omega
    · rw [show (bs ++ (pre ++ [y])).length = m + 1 by rw [hmm]; simp; omega]
      exact hA182
    · rw [hpk, List.length_set, hyl, List.map_set]
      exact hf182.owns hown173 fun i hi e => hgA2 (hi.trans (by rw [e]))
    · exact Nat.le_trans hbase hFall.size
    · rcases hggW with e | e
      · rw [← e]; exact hg'
      · exact .inr ⟨gg, rfl, by omega⟩
    · rintro i e
      cases e
      rcases hggW with e | e
      · exact hgb0 _ e
      · exact .inr (by omega)
    · exact Nat.le_trans hW3 hFall.size
    · exact hf182.keep hbox173 (by omega)
    · exact hF.trans' hFall (by
        rintro i hi (rfl | e)
        · exact .inl rfl
        · rcases hg' with e' | ⟨b, e', hb⟩
          · exact .inr (e' ▸ e)
          · rw [e'] at e; cases e; omega)
  · rintro D ys W hD rfl ⟨⟨g', h1, h2, h3, _⟩, h4, h5⟩ hK
    refine leave_1 hK ?_
    intro W' hf
    refine ⟨g', h1.keep hf ?_ ?_, h2, h5.trans' hf (by rintro i hi rfl; omega)⟩
    · rintro rfl
      omega
    · rintro i hi rfl
      obtain ⟨_, c, t, hc⟩ := h1.cellsG hi
      rw [hc] at hK; cases hK
end Go.Proofs.Ytfekkdmnboccfaa
