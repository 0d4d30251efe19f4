/- Rings of numbers whose row's block is told; what Push, All of them do; the reference's ring.  Conditions: they lie as it is said. -/
import Derived.Test.YtlhgibiffekpfaaRng
import Derived.Test.YtlhgibiffekpfaaLib2
import Derived.Test.YtlhgibiffekpfaaC3
import Derived.Test.YtlhgibiffekpfaaC4
namespace Go.Proofs.Ytlhgibiffekpfaa
set_option linter.unusedSimpArgs false
set_option linter.unusedVariables false
open Go Go.RowKit VC
/-- A ring of numbers lies at R; its row lies at g. -/
def RingG (w : World) (R : Nat) (most : Int) (buf : List Int) (g : Option Nat) : Prop :=
  ∃ s, ∃ raw : List Int, ∃ f, w.heap[R]? = some (.cells #[.int .i64 most, .int .i64 (f : Nat), s] 90 (0, 0)) ∧ w.ownsRow 0 3 1 s raw.length (raw.map (Value.int .i64)) ∧ s.ownBlock = g ∧ (raw.length : Int) ≤ most ∧ ((raw.length : Int) < most → f = 0) ∧ (f < raw.length ∨ f = 0) ∧ buf = rot raw f
variable {w : World} {R : Nat} {most : Int} {buf : List Int} {g : Option Nat}
theorem RingG.at (h : RingG w R most buf g) : RingAt (Value.int .i64) 90 3 w 0 R most buf := by
  obtain ⟨s, raw, f, h1, h2, -, h3⟩ := h
  exact ⟨s, raw, f, h1, h2, h3⟩
theorem RingG.blocks (h : RingG w R most buf g) : (∃ c, w.heap[R]? = some (.cells c 90 (0, 0))) ∧ ∀ i, g = some i → i ≠ R ∧ ∃ c, w.heap[i]? = some (.cells c 3 (0, 0)) := by
  obtain ⟨s, raw, f, h1, h2, h3, -⟩ := h
  refine ⟨⟨_, h1⟩, fun i hi => ?_⟩
  obtain ⟨_, cur, hc⟩ := own_block h2 (h3.trans hi)
  refine ⟨fun e => ?_, cur, hc⟩
  subst e
  rw [h1] at hc; cases hc
theorem RingG.lt (h : RingG w R most buf g) : R < w.heap.size ∧ ∀ i, g = some i → i < w.heap.size :=
  ⟨lt_of_blk h.blocks.1.choose_spec, fun i hi => lt_of_blk (h.blocks.2 i hi).2.choose_spec⟩
theorem owns_keep {w w' : World} {base : Nat} {e : TypeId} {size : Nat} {v : Value} {n : Nat} {xs : List Value} (h : w.ownsRow base e size v n xs) (k : ∀ i c, v.ownBlock = some i → w.heap[i]? = some (.cells c e (0, 0)) → w'.heap[i]? = some (.cells c e (0, 0))) : w'.ownsRow base e size v n xs := by
  refine ⟨h.1, ?_⟩
  rcases h.2 with hn | ⟨g, cap, cur, hv, hg, hgg, r⟩
  · exact .inl hn
  · exact .inr ⟨g, cap, cur, hv, hg, k g _ (by rw [hv]; rfl) hgg, r⟩
theorem RingG.keep {w' : World} {S : Nat → Prop} (h : RingG w R most buf g) (f : Fm S w w') (hR : ¬ S R) (hg : ∀ i, g = some i → ¬ S i) : RingG w' R most buf g := by
  obtain ⟨s, raw, k, h1, h2, h3, h4⟩ := h
  exact ⟨s, raw, k, f.keep h1 hR, f.owns h2 fun i hi => hg i (h3 ▸ hi), h3, h4⟩
theorem RingG.keepK {w' : World} {B : Nat} {S : Nat → Prop} (h : RingG w R most buf g) (f : KpC B S w w') (hR : ¬ S R) (hg : ∀ i, g = some i → ¬ S i) : RingG w' R most buf g := by
  obtain ⟨s, raw, k, h1, h2, h3, h4⟩ := h
  exact ⟨s, raw, k, f.cells hR h1, owns_keep h2 fun i c hi hc => f.cells (hg i (h3 ▸ hi)) hc, h3, h4⟩
theorem new27_g (a : Int) (w : World) : callV Try.prog 27 [.int .i64 a] w fun v w' => v = .pointer (some ⟨w.heap.size, 0, none⟩) ∧ RingG w' w.heap.size (max a 1) [] none ∧ Fm none' w w' := by
  refine vc27 a w _ (allocC_of fun w' hb hs hf => ?_)
  exact ⟨rfl, ⟨_, [], 0, hb, World.ownsRow_nil w' 0 3 1, rfl, by simp; omega, fun _ => rfl, .inr rfl, rfl⟩, hf⟩
theorem len30_g (h : RingG w R most buf g) : callV Try.prog 30 [.pointer (some ⟨R, 0, none⟩)] w fun v w' => v = .int .i64 buf.length ∧ w' = w := len30_c h.at
theorem at31_g (i : Int) (h : RingG w R most buf g) (hn : buf.length ≤ 4096) :
    callV Try.prog 31 [.pointer (some ⟨R, 0, none⟩), .int .i64 i] w fun v w' => v = (if 0 ≤ i ∧ i < buf.length then .tuple #[(Value.int .i64) (buf.getD i.toNat 0), .bool true] else .tuple #[(Value.int .i64) 0, .bool false]) ∧ Fm none' w w' := at31_c i h.at hn
set_option maxRecDepth 8000 in
theorem push28_g (x : Int) (h : RingG w R most buf g) (hn : buf.length ≤ 4096) (h1m : 1 ≤ most) :
    callV Try.prog 28 [.pointer (some ⟨R, 0, none⟩), .int .i64 x] w fun v w' => v = (if (buf.length : Int) < most then .tuple #[(Value.int .i64) 0, .bool false] else .tuple #[(Value.int .i64) (buf.headD 0), .bool true]) ∧
      (∃ g', RingG w' R most (if (buf.length : Int) < most then buf ++ [x] else buf.tail ++ [x]) g' ∧ (g' = g ∨ ∃ b, g' = some b ∧ w.heap.size ≤ b)) ∧ Fm (fun i => i = R ∨ g = some i) w w' := by
  obtain ⟨s, raw, f, h1, h2, rfl, h3, h4, h5, rfl⟩ := h
  obtain ⟨p, c, rfl, hc⟩ := own_read h2
  rw [rot_length] at hn ⊢
  refine vc28 ⟨R, 0, none⟩ x w _ ?_
  have h1' : w.drew.heap[R]? = some (.cells #[.int .i64 most, .int .i64 (f : Nat), .slice p raw.length c] 90 (0, 0)) := h1
  have hne : ∀ i, Value.ownBlock (.slice p raw.length c) = some i → i ≠ R := by
    rintro i hi rfl
    obtain ⟨_, cur, hcur⟩ := own_block h2 hi
    rw [h1] at hcur; cases hcur
  simp only [addr_add, Nat.zero_add, isB_i, isK_i, isP_i, isTup_i, isInt_i, isSl_i, isPtr_i, isCs_i, isStr_i, isFn_i, isIf_i, rd_i, br_t, br_f, orO_s, orO_n, gd_t, bv_add, bv_sub, bv_mul, bv_eql, bv_neq, bv_lss, bv_leq, bv_gtr, bv_geq, bv_quo, bv_rem, bv_shl, bv_shr, bv_seq, bv_sne, bv_ptr, bv_if, bv_map, bv_nf, bv_bool, bv_sl, bv_fn, uv_not, uv_neg, eqV, nilV, nc_ptr, nc_fn, nc_if, Option.map_some, toN, Nat.mul_one, implies_true, true_and, and_true, and_self]
  refine rd_of (v := .slice p raw.length c) (cellOf h1' rfl) ?_
  simp only [isB_i, isK_i, isP_i, isTup_i, isInt_i, isSl_i, isPtr_i, isCs_i, isStr_i, isFn_i, isIf_i, rd_i, br_t, br_f, orO_s, orO_n, gd_t, bv_add, bv_sub, bv_mul, bv_eql, bv_neq, bv_lss, bv_leq, bv_gtr, bv_geq, bv_quo, bv_rem, bv_shl, bv_shr, bv_seq, bv_sne, bv_ptr, bv_if, bv_map, bv_nf, bv_bool, bv_sl, bv_fn, uv_not, uv_neg, eqV, nilV, nc_ptr, nc_fn, nc_if, Option.map_some, toN, Nat.mul_one, implies_true, true_and, and_true, and_self]
  refine rd_of (v := .int .i64 most) (cellOf h1' rfl) ?_
  simp only [isB_i, isK_i, isP_i, isTup_i, isInt_i, isSl_i, isPtr_i, isCs_i, isStr_i, isFn_i, isIf_i, rd_i, br_t, br_f, orO_s, orO_n, gd_t, bv_add, bv_sub, bv_mul, bv_eql, bv_neq, bv_lss, bv_leq, bv_gtr, bv_geq, bv_quo, bv_rem, bv_shl, bv_shr, bv_seq, bv_sne, bv_ptr, bv_if, bv_map, bv_nf, bv_bool, bv_sl, bv_fn, uv_not, uv_neg, eqV, nilV, nc_ptr, nc_fn, nc_if, Option.map_some, toN, Nat.mul_one, implies_true, true_and, and_true, and_self]
  refine br_dec (fun hr => ?_) (fun hr => ?_)
  · obtain rfl := h4 hr
    rw [if_pos hr, if_pos hr, rot_zero]
    refine rd_of (v := .slice p raw.length c) (cellOf h1' rfl) ?_
    simp only [isB_i, isK_i, isP_i, isTup_i, isInt_i, isSl_i, isPtr_i, isCs_i, isStr_i, isFn_i, isIf_i, rd_i, br_t, br_f, orO_s, orO_n, gd_t, bv_add, bv_sub, bv_mul, bv_eql, bv_neq, bv_lss, bv_leq, bv_gtr, bv_geq, bv_quo, bv_rem, bv_shl, bv_shr, bv_seq, bv_sne, bv_ptr, bv_if, bv_map, bv_nf, bv_bool, bv_sl, bv_fn, uv_not, uv_neg, eqV, nilV, nc_ptr, nc_fn, nc_if, Option.map_some, toN, Nat.mul_one, implies_true, true_and, and_true, and_self]
    refine append_1g (by rw [row31]) row3 rfl rfl h2.drew (Nat.zero_le _) (by unfold maxLen; omega) (by omega) ?_
    intro p2 c2 w' ho2 hf hgo
    simp only [isB_i, isK_i, isP_i, isTup_i, isInt_i, isSl_i, isPtr_i, isCs_i, isStr_i, isFn_i, isIf_i, rd_i, br_t, br_f, orO_s, orO_n, gd_t, bv_add, bv_sub, bv_mul, bv_eql, bv_neq, bv_lss, bv_leq, bv_gtr, bv_geq, bv_quo, bv_rem, bv_shl, bv_shr, bv_seq, bv_sne, bv_ptr, bv_if, bv_map, bv_nf, bv_bool, bv_sl, bv_fn, uv_not, uv_neg, eqV, nilV, nc_ptr, nc_fn, nc_if, Option.map_some, toN, Nat.mul_one, implies_true, true_and, and_true, and_self]
    refine stC_one (hf.keep h1' fun e => hne _ e rfl) (by simp) rfl fun w2 hw2 hf2 => ?_
    refine ⟨⟨_, ⟨_, raw ++ [x], 0, hw2, ?_, rfl, by simp; omega, fun _ => rfl, .inr rfl, (rot_zero _).symm⟩, hgo⟩, ?_⟩
    · rw [List.length_append, List.map_append]
      refine hf2.owns ho2 fun i hi e => ?_
      subst e
      obtain ⟨_, cur, hc⟩ := own_block ho2 hi
      rw [hf.keep h1' fun e => hne _ e rfl] at hc
      cases hc
    · exact (Fm.drew w).none.trans ((hf.mono fun i _ h => .inr h).trans (hf2.mono fun i _ h => .inl h))
  · have hfl : f < raw.length := by omega
    have hlen : (raw.length : Int) = most := by omega
    rw [if_neg hr, if_neg hr]
    have h1'' : w.drew.drew.heap[R]? = some (.cells #[.int .i64 most, .int .i64 (f : Nat), .slice p raw.length c] 90 (0, 0)) := h1
    refine rd_of (v := .slice p raw.length c) (cellOf h1'' rfl) ?_
    simp only [isB_i, isK_i, isP_i, isTup_i, isInt_i, isSl_i, isPtr_i, isCs_i, isStr_i, isFn_i, isIf_i, rd_i, br_t, br_f, orO_s, orO_n, gd_t, bv_add, bv_sub, bv_mul, bv_eql, bv_neq, bv_lss, bv_leq, bv_gtr, bv_geq, bv_quo, bv_rem, bv_shl, bv_shr, bv_seq, bv_sne, bv_ptr, bv_if, bv_map, bv_nf, bv_bool, bv_sl, bv_fn, uv_not, uv_neg, eqV, nilV, nc_ptr, nc_fn, nc_if, Option.map_some, toN, Nat.mul_one, implies_true, true_and, and_true, and_self]
    refine rd_of (v := .int .i64 (f : Nat)) (cellOf h1'' rfl) ?_
    obtain ⟨g, c', hs, hset⟩ := own_set (KK := fun _ => True) (x := .int .i64 x) h2 hfl rfl
    clear hset
    cases hs
    obtain ⟨g', hg', -, -, hcell⟩ := hc f _ (show (raw.map (Value.int .i64))[f]? = some ((Value.int .i64) _) by rw [List.getElem?_map, rot_head raw f 0 hfl]; rfl)
    cases hg'
    simp only [isB_i, isK_i, isP_i, isTup_i, isInt_i, isSl_i, isPtr_i, isCs_i, isStr_i, isFn_i, isIf_i, rd_i, br_t, br_f, orO_s, orO_n, gd_t, bv_add, bv_sub, bv_mul, bv_eql, bv_neq, bv_lss, bv_leq, bv_gtr, bv_geq, bv_quo, bv_rem, bv_shl, bv_shr, bv_seq, bv_sne, bv_ptr, bv_if, bv_map, bv_nf, bv_bool, bv_sl, bv_fn, uv_not, uv_neg, eqV, nilV, nc_ptr, nc_fn, nc_if, Option.map_some, toN, Nat.mul_one, implies_true, true_and, and_true, and_self]
    have hF3 : Fm none' w w.drew.drew.drew := ((Fm.drew w).trans (Fm.drew _)).trans (Fm.drew _)
    have h13 : w.drew.drew.drew.heap[R]? = some (.cells #[.int .i64 most, .int .i64 (f : Nat), .slice (some ⟨g, 0, none⟩) raw.length c] 90 (0, 0)) := h1
    refine ⟨by omega, rd_of (((Fm.drew w).trans (Fm.drew _)).cell hcell id) ?_⟩
    refine ⟨fun w' => w'.heap[R]? = some (.cells #[.int .i64 most, .int .i64 (f : Nat), .slice (some ⟨g, 0, none⟩) raw.length c] 90 (0, 0)), h13, ?_⟩
    refine rd_of (v := .slice (some ⟨g, 0, none⟩) raw.length c) (cellOf h13 rfl) ⟨fun w' hw => rd_of (cellOf hw rfl) rfl, ?_⟩
    simp only [isB_i, isK_i, isP_i, isTup_i, isInt_i, isSl_i, isPtr_i, isCs_i, isStr_i, isFn_i, isIf_i, rd_i, br_t, br_f, orO_s, orO_n, gd_t, bv_add, bv_sub, bv_mul, bv_eql, bv_neq, bv_lss, bv_leq, bv_gtr, bv_geq, bv_quo, bv_rem, bv_shl, bv_shr, bv_seq, bv_sne, bv_ptr, bv_if, bv_map, bv_nf, bv_bool, bv_sl, bv_fn, uv_not, uv_neg, eqV, nilV, nc_ptr, nc_fn, nc_if, Option.map_some, toN, Nat.mul_one, implies_true, true_and, and_true, and_self]
    refine rd_of (v := .int .i64 (f : Nat)) (cellOf h13 rfl) ⟨fun w' hw => rd_of (cellOf hw rfl) rfl, ?_⟩
    simp only [isB_i, isK_i, isP_i, isTup_i, isInt_i, isSl_i, isPtr_i, isCs_i, isStr_i, isFn_i, isIf_i, rd_i, br_t, br_f, orO_s, orO_n, gd_t, bv_add, bv_sub, bv_mul, bv_eql, bv_neq, bv_lss, bv_leq, bv_gtr, bv_geq, bv_quo, bv_rem, bv_shl, bv_shr, bv_seq, bv_sne, bv_ptr, bv_if, bv_map, bv_nf, bv_bool, bv_sl, bv_fn, uv_not, uv_neg, eqV, nilV, nc_ptr, nc_fn, nc_if, Option.map_some, toN, Nat.mul_one, implies_true, true_and, and_true, and_self]
    refine ⟨by omega, fun _ _ => by omega, ?_⟩
    have h23 := h2.drew.drew.drew
    obtain ⟨g2, c2, hs, hset⟩ := own_set (x := .int .i64 x) h23 hfl rfl
    cases hs
    refine hset fun w59 ho59 hf59 => ?_
    have hRg : R ≠ g := fun e => hne g rfl e.symm
    have h59 := hf59.keep h13 hRg
    refine ⟨h59, ?_⟩
    have h59' : w59.drew.heap[R]? = some (.cells #[.int .i64 most, .int .i64 (f : Nat), .slice (some ⟨g, 0, none⟩) raw.length c] 90 (0, 0)) := h59
    refine ⟨fun w' => w'.cell? ⟨R, 0, none⟩ = some (.int .i64 most), cellOf h59' rfl, ?_⟩
    refine rd_of (v := .int .i64 most) (cellOf h59' rfl) ⟨fun w' hw => rd_of hw rfl, ?_⟩
    simp only [isB_i, isK_i, isP_i, isTup_i, isInt_i, isSl_i, isPtr_i, isCs_i, isStr_i, isFn_i, isIf_i, rd_i, br_t, br_f, orO_s, orO_n, gd_t, bv_add, bv_sub, bv_mul, bv_eql, bv_neq, bv_lss, bv_leq, bv_gtr, bv_geq, bv_quo, bv_rem, bv_shl, bv_shr, bv_seq, bv_sne, bv_ptr, bv_if, bv_map, bv_nf, bv_bool, bv_sl, bv_fn, uv_not, uv_neg, eqV, nilV, nc_ptr, nc_fn, nc_if, Option.map_some, toN, Nat.mul_one, implies_true, true_and, and_true, and_self]
    refine rd_of (v := .int .i64 (f : Nat)) (cellOf h59' rfl) ?_
    simp only [isB_i, isK_i, isP_i, isTup_i, isInt_i, isSl_i, isPtr_i, isCs_i, isStr_i, isFn_i, isIf_i, rd_i, br_t, br_f, orO_s, orO_n, gd_t, bv_add, bv_sub, bv_mul, bv_eql, bv_neq, bv_lss, bv_leq, bv_gtr, bv_geq, bv_quo, bv_rem, bv_shl, bv_shr, bv_seq, bv_sne, bv_ptr, bv_if, bv_map, bv_nf, bv_bool, bv_sl, bv_fn, uv_not, uv_neg, eqV, nilV, nc_ptr, nc_fn, nc_if, Option.map_some, toN, Nat.mul_one, implies_true, true_and, and_true, and_self]
    refine ⟨cellOf h59' rfl, ?_⟩
    rw [w64 (by omega), dv_ne _ (by omega)]
    have hm : Int.tmod ((f : Int) + 1) most = (((f + 1) % raw.length : Nat) : Int) := by
      rw [Int.tmod_eq_emod_of_nonneg (by omega), ← hlen, Int.natCast_emod]; rfl
    rw [hm]
    simp only [isB_i, isK_i, isP_i, isTup_i, isInt_i, isSl_i, isPtr_i, isCs_i, isStr_i, isFn_i, isIf_i, rd_i, br_t, br_f, orO_s, orO_n, gd_t, bv_add, bv_sub, bv_mul, bv_eql, bv_neq, bv_lss, bv_leq, bv_gtr, bv_geq, bv_quo, bv_rem, bv_shl, bv_shr, bv_seq, bv_sne, bv_ptr, bv_if, bv_map, bv_nf, bv_bool, bv_sl, bv_fn, uv_not, uv_neg, eqV, nilV, nc_ptr, nc_fn, nc_if, Option.map_some, toN, Nat.mul_one, implies_true, true_and, and_true, and_self]
    refine stC_one h59' (by simp) rfl fun w92 hw92 hf92 => ?_
    refine ⟨cellOf hw92 rfl, ⟨_, ⟨_, raw.set f x, (f + 1) % raw.length, hw92, ?_, rfl, by simp; omega, fun h => ?_, .inl ?_, ?_⟩, .inl rfl⟩, ?_⟩
    · rw [List.length_set, List.map_set]
      refine hf92.owns ho59.drew fun i hi e => ?_
      cases hi
      exact hRg e.symm
    · rw [List.length_set] at h; omega
    · rw [List.length_set]; exact Nat.mod_lt _ (by omega)
    · exact (rot_push raw f _ hfl).symm
    · refine hF3.none.trans ((hf59.mono fun i _ e => .inr ?_).trans ((Fm.drew w59).none.trans (hf92.mono fun i _ e => .inl e)))
      subst e
      rfl
theorem all32_g (a : Addr) (w : World) : callV Try.prog 32 [.pointer (some a)] w fun v w' => v = .func (.func 42) #[] #[.pointer (some ⟨w.heap.size, 0, none⟩)] ∧ w'.heap[w.heap.size]? = some (.cells #[.pointer (some a)] 48 (0, 0)) ∧ w.heap.size < w'.heap.size ∧ Fm none' w w' :=
  vc32 a w _ (allocC_of fun w' hb hs hf => ⟨rfl, hb, by omega, hf⟩)
theorem grown_none {w w' : World} (h : Fm none' w w') : w.grownBy w' none := ⟨h.os, h.tape, h.output, h.size, fun k hk _ => h.blk k hk id⟩
theorem seq42 {c0 : Nat} {S : Nat → Prop} (h0 : w.heap[c0]? = some (.cells #[.pointer (some ⟨R, 0, none⟩)] 48 (0, 0))) (hr : RingG w R most buf g) (hn : buf.length ≤ 4096) (hc : ¬ S c0) (hR : ¬ S R) (hg : ∀ i, g = some i → ¬ S i) :
    SeqStopsK Fence.wide 0 Try.prog 42 [.pointer (some ⟨c0, 0, none⟩)].toArray (fun x : Int => ((List.range 1).map (fun (_ : Nat) => Value.int .i64 x)).toArray) (KpC w.heap.size S) (fun ys => ys = buf) (fun ys => ys <+: buf) buf.length w := by
  intro l J Jx W hW hJ hJx hY hJ0
  have hf := below_fm hW
  have key : callV Try.prog 42 [.func (.yield l) #[] #[], .pointer (some ⟨c0, 0, none⟩)] W fun v W' => (∃ xs, xs = buf ∧ J xs W') ∨ (∃ pre, pre <+: buf ∧ Jx pre W') := by
    have g0 := hf.keep h0 id
    have gr := hr.keep hf id fun _ _ h => h
    obtain ⟨s, raw, f, h1, h2, h3, h4, h5, h6, h7⟩ := id gr
    obtain ⟨p, cp, rfl, -⟩ := own_read h2
    have c1 : W.cell? ⟨c0, 0, none⟩ = some (.pointer (some ⟨R, 0, none⟩)) := cellOf g0 rfl
    have c2 : W.cell? (Addr.add ⟨R, 0, none⟩ 2) = some (.slice p raw.length cp) := by rw [addr_add]; exact cellOf h1 rfl
    refine vc42 _ ⟨c0, 0, none⟩ W _ ?_
    simp only [c1, isB_i, isK_i, isP_i, isTup_i, isInt_i, isSl_i, isPtr_i, isCs_i, isStr_i, isFn_i, isIf_i, rd_i, br_t, br_f, orO_s, orO_n, gd_t, bv_add, bv_sub, bv_mul, bv_eql, bv_neq, bv_lss, bv_leq, bv_gtr, bv_geq, bv_quo, bv_rem, bv_shl, bv_shr, bv_seq, bv_sne, bv_ptr, bv_if, bv_map, bv_nf, bv_bool, bv_sl, bv_fn, uv_not, uv_neg, eqV, nilV, nc_ptr, nc_fn, nc_if, Option.map_some, toN, Nat.mul_one, implies_true, true_and, and_true, and_self, c2]
    have hlen : raw.length = buf.length := by rw [h7, rot_length]
    rw [hlen]
    refine ⟨fun u w' => ∃ j : Nat, j ≤ buf.length ∧ u 11 = .int .i64 j ∧ J (buf.take j) w' ∧ w'.heap[c0]? = some (.cells #[.pointer (some ⟨R, 0, none⟩)] 48 (0, 0)) ∧ RingG w' R most buf g, fun u _ => buf.length - (intOf (u 11)).toNat, ⟨0, by omega, rfl, by simpa using hJ0, g0, gr⟩, ?_⟩
    rintro u w11 ⟨j, hj, hu, hJj, g0', gr'⟩
    change u 11 = .int .i64 j at hu
    simp only [hu, isB_i, isK_i, isP_i, isTup_i, isInt_i, isSl_i, isPtr_i, isCs_i, isStr_i, isFn_i, isIf_i, rd_i, br_t, br_f, orO_s, orO_n, gd_t, bv_add, bv_sub, bv_mul, bv_eql, bv_neq, bv_lss, bv_leq, bv_gtr, bv_geq, bv_quo, bv_rem, bv_shl, bv_shr, bv_seq, bv_sne, bv_ptr, bv_if, bv_map, bv_nf, bv_bool, bv_sl, bv_fn, uv_not, uv_neg, eqV, nilV, nc_ptr, nc_fn, nc_if, Option.map_some, toN, Nat.mul_one, implies_true, true_and, and_true, and_self]
    refine br_dec (fun hlt => ?_) (fun hlt => ?_)
    · have c1' := cellOf g0' (i := 0) rfl
      simp only [c1', isB_i, isK_i, isP_i, isTup_i, isInt_i, isSl_i, isPtr_i, isCs_i, isStr_i, isFn_i, isIf_i, rd_i, br_t, br_f, orO_s, orO_n, gd_t, bv_add, bv_sub, bv_mul, bv_eql, bv_neq, bv_lss, bv_leq, bv_gtr, bv_geq, bv_quo, bv_rem, bv_shl, bv_shr, bv_seq, bv_sne, bv_ptr, bv_if, bv_map, bv_nf, bv_bool, bv_sl, bv_fn, uv_not, uv_neg, eqV, nilV, nc_ptr, nc_fn, nc_if, Option.map_some, toN, Nat.mul_one, implies_true, true_and, and_true, and_self]
      refine (at31_g j gr' (by omega)).mono ?_
      rintro _ w19 ⟨rfl, hf19⟩
      rw [if_pos (by omega)]
      simp only [isB_i, isK_i, isP_i, isTup_i, isInt_i, isSl_i, isPtr_i, isCs_i, isStr_i, isFn_i, isIf_i, rd_i, br_t, br_f, orO_s, orO_n, gd_t, bv_add, bv_sub, bv_mul, bv_eql, bv_neq, bv_lss, bv_leq, bv_gtr, bv_geq, bv_quo, bv_rem, bv_shl, bv_shr, bv_seq, bv_sne, bv_ptr, bv_if, bv_map, bv_nf, bv_bool, bv_sl, bv_fn, uv_not, uv_neg, eqV, nilV, nc_ptr, nc_fn, nc_if, Option.map_some, toN, Nat.mul_one, implies_true, true_and, and_true, and_self, List.getElem?_cons_zero, List.getElem?_cons_succ, callF_yield, List.nil_append]
      have hJ19 : J (buf.take j) w19 := hJ _ _ _ none hJj (grown_none hf19) fun r e => by cases e
      have g19 := hf19.keep g0' id
      have gr19 := gr'.keep hf19 id fun _ _ h => h
      refine yield_of (hY _ (buf.getD j 0) w19 hJ19 (by rw [List.length_take]; omega)) ?_
      have htk : buf.take (j + 1) = buf.take j ++ [buf.getD j 0] := by
        rw [List.take_add_one, List.getD_eq_getElem?_getD, List.getElem?_eq_getElem (by omega)]; rfl
      rintro e w30 (⟨rfl, hJ1, hKp⟩ | ⟨rfl, hJx1⟩)
      · refine ⟨_, rfl, ?_⟩
        simp only [isB_i, isK_i, isP_i, isTup_i, isInt_i, isSl_i, isPtr_i, isCs_i, isStr_i, isFn_i, isIf_i, rd_i, br_t, br_f, orO_s, orO_n, gd_t, bv_add, bv_sub, bv_mul, bv_eql, bv_neq, bv_lss, bv_leq, bv_gtr, bv_geq, bv_quo, bv_rem, bv_shl, bv_shr, bv_seq, bv_sne, bv_ptr, bv_if, bv_map, bv_nf, bv_bool, bv_sl, bv_fn, uv_not, uv_neg, eqV, nilV, nc_ptr, nc_fn, nc_if, Option.map_some, toN, Nat.mul_one, implies_true, true_and, and_true, and_self, Bool.not_true]
        rw [w64 (by omega)]
        refine ⟨⟨j + 1, by omega, rfl, by rw [htk]; exact hJ1, hKp.cells hc g19, gr19.keepK hKp hR hg⟩, ?_⟩
        show buf.length - ((j : Int) + 1).toNat < buf.length - (j : Int).toNat; omega
      · refine ⟨_, rfl, ?_⟩
        simp only [isB_i, isK_i, isP_i, isTup_i, isInt_i, isSl_i, isPtr_i, isCs_i, isStr_i, isFn_i, isIf_i, rd_i, br_t, br_f, orO_s, orO_n, gd_t, bv_add, bv_sub, bv_mul, bv_eql, bv_neq, bv_lss, bv_leq, bv_gtr, bv_geq, bv_quo, bv_rem, bv_shl, bv_shr, bv_seq, bv_sne, bv_ptr, bv_if, bv_map, bv_nf, bv_bool, bv_sl, bv_fn, uv_not, uv_neg, eqV, nilV, nc_ptr, nc_fn, nc_if, Option.map_some, toN, Nat.mul_one, implies_true, true_and, and_true, and_self, Bool.not_false]
        exact .inr ⟨_, by rw [← htk]; exact List.take_prefix _ _, hJx1⟩
    · refine .inl ⟨_, rfl, ?_⟩
      rw [show j = buf.length by omega, List.take_length] at hJj
      exact hJj
  refine callsIn_wide.2 ?_
  exact key.2.mono fun e w' ⟨v, he, h⟩ => ⟨⟨v, he⟩, h⟩
end Go.Proofs.Ytlhgibiffekpfaa
