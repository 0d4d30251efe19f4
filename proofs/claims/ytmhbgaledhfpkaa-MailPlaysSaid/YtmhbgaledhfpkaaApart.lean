/- MailApart comes to true and turns nothing that was there.  Conditions: the argument's cells hold numbers. -/
import Derived.Test.YtmhbgaledhfpkaaShown
import Derived.Test.YtmhbgaledhfpkaaRef
import Derived.Test.YtmhbgaledhfpkaaC1
namespace Go.Proofs.Ytmhbgaledhfpkaa
set_option linter.unusedSimpArgs false
set_option linter.unusedVariables false
open Go Go.RowKit Go.Conc VC

theorem box_no_row {T e : TypeId} {w : World} {B C cap base i : Nat} {buf : List Value} {lost : Int} (h : BoxAt T w B C cap buf lost) (hT : T ≠ e) (hr : rowsOf e w base i) : i ≠ B ∧ i ≠ C := by
  obtain ⟨h1, s, r, h2⟩ := h
  obtain ⟨_, cur, hc⟩ := hr
  constructor
  · rintro rfl; rw [h1] at hc; cases hc; exact hT rfl
  · rintro rfl; rw [h2] at hc; cases hc
theorem box_lt {T : TypeId} {w : World} {B C cap : Nat} {buf : List Value} {lost : Int} (h : BoxAt T w B C cap buf lost) : B < w.heap.size ∧ C < w.heap.size := ⟨lt_of_blk h.1, lt_of_blk h.2.choose_spec.choose_spec⟩
theorem ref_no_row {w : World} {base base' D cap i : Nat} {buf : List Value} {lost : Int} (h : RefAt w base D cap buf lost) (hr : rowsOf 3 w base' i) : i ≠ D := by
  obtain ⟨s, h1, _⟩ := h
  obtain ⟨_, cur, hc⟩ := hr
  rintro rfl; rw [h1] at hc; cases hc
theorem ref_no_box {T : TypeId} {w : World} {B C cap base D cap' : Nat} {buf buf' : List Value} {lost lost' : Int} (h : BoxAt T w B C cap buf lost) (hr : RefAt w base D cap' buf' lost') (hT : T ≠ 43) : D ≠ B ∧ D ≠ C := by
  obtain ⟨h1, s, r, h2⟩ := h
  obtain ⟨_, hc, _⟩ := hr
  constructor
  · rintro rfl; rw [h1] at hc; cases hc; first | done | exact hT rfl
  · rintro rfl; rw [h2] at hc; cases hc
/-- All are numbers. -/
def Nums (l : List Value) : Prop := ∀ x ∈ l, ∃ k, x = .int .i64 k
theorem Nums.one {l : List Value} (h : Nums l) : ∀ x ∈ l, x.oneCell' = true := fun x hx => by obtain ⟨k, rfl⟩ := h x hx; rfl
theorem Nums.snoc {l : List Value} (h : Nums l) (k : Int) : Nums (l ++ [.int .i64 k]) := fun x hx => by
  rcases List.mem_append.1 hx with hx | hx
  · exact h x hx
  · exact ⟨k, by simpa using hx⟩
theorem Nums.tail {l : List Value} (h : Nums l) : Nums l.tail := fun x hx => h x (List.mem_of_mem_tail hx)
theorem Nums.head {l : List Value} (h : Nums l) : ∃ k, l.headD (.int .i64 0) = .int .i64 k := by
  cases l with
  | nil => exact ⟨0, rfl⟩
  | cons x l => exact h x (List.mem_cons_self ..)

/-- A box and its reference hold the same. -/
structure Twin (W w : World) (A CA D cap k : Nat) (buf : List Value) (lost : Int) : Prop where
  box : BoxAt 54 w A CA cap buf lost
  ref : RefAt w W.heap.size D cap buf lost
  num : Nums buf
  len : buf.length ≤ k
  l0 : 0 ≤ lost
  lk : lost ≤ k
  fm : Fm none' W w
  a : W.heap.size ≤ A ∧ W.heap.size ≤ CA ∧ W.heap.size ≤ D
theorem Twin.keep {W w w' : World} {A CA D cap k : Nat} {buf : List Value} {lost : Int} {S : Nat → Prop} (h : Twin W w A CA D cap k buf lost) (f : Fm S w w') (hS : ¬ S A ∧ ¬ S CA ∧ ¬ S D) (hr : ∀ i, rowsOf 3 w W.heap.size i → ¬ S i) (hW : ∀ i, S i → W.heap.size ≤ i) : Twin W w' A CA D cap k buf lost :=
  ⟨h.box.keep f hS.1 hS.2.1, h.ref.keep f hS.2.2 hr, h.num, h.len, h.l0, h.lk, h.fm.trans' f fun i hi hs => by have := hW i hs; omega, h.a⟩
theorem Twin.ne {W w : World} {A CA D cap k : Nat} {buf : List Value} {lost : Int} (h : Twin W w A CA D cap k buf lost) : D ≠ A ∧ D ≠ CA := ref_no_box h.box h.ref (by decide)
theorem Twin.put {W w : World} {A CA D cap k : Nat} {buf : List Value} {lost : Int} (h : Twin W w A CA D cap k buf lost) (hk : k ≤ 400) (x : Int) :
    callV Try.prog 15 [.pointer (some ⟨A, 0, none⟩), .int .i64 x] w fun v w1 => v = .bool (decide (buf.length < cap)) ∧ Fm (fun i => i = A ∨ i = CA) w w1 ∧ Fm none' W w1 ∧
      callV Try.prog 16 [.pointer (some ⟨D, 0, none⟩), .int .i64 x] w1 fun v' w2 => v' = .bool (decide (buf.length < cap)) ∧ Fm (fun i => i = D ∨ rowsOf 3 w1 W.heap.size i) w1 w2 ∧ ∃ buf' lost', Twin W w2 A CA D cap (k + 1) buf' lost' := by
  have hl := h.len; have hl0 := h.l0; have hlk := h.lk; obtain ⟨ha, hca, hd⟩ := h.a
  refine (put15_c (.int .i64 x) h.box h.l0 (by omega)).mono ?_
  rintro v w1 ⟨rfl, hb1, hf1⟩
  have hF1 : Fm none' W w1 := h.fm.trans' hf1 (by rintro i hi (rfl | rfl) <;> omega)
  have hr1 := h.ref.keep hf1 (by rintro (e | e); exact h.ne.1 e; exact h.ne.2 e) (fun i hi e => by rcases e with e | e; exact (box_no_row h.box (by decide) hi).1 e; exact (box_no_row h.box (by decide) hi).2 e)
  refine ⟨rfl, hf1, hF1, ?_⟩
  refine (put16_c x hr1 hF1.size (by omega) h.l0 (by omega)).mono ?_
  rintro v w2 ⟨rfl, hr2, hf2⟩
  refine ⟨rfl, hf2, (if buf.length < cap then buf ++ [.int .i64 x] else buf), (if buf.length < cap then lost else lost + 1), ?_⟩
  have hb2 := hb1.keep hf2 (by rintro (e | e); exact h.ne.1 e.symm; exact (box_no_row hb1 (by decide) e).1 rfl) (by rintro (e | e); exact h.ne.2 e.symm; exact (box_no_row hb1 (by decide) e).2 rfl)
  refine ⟨hb2, hr2, ?_, ?_, ?_, ?_, hF1.trans' hf2 (by rintro i hi (rfl | e); omega; have := e.1; omega), h.a⟩
  · split
    · exact h.num.snoc x
    · exact h.num
  · split
    · simp; omega
    · omega
  · split <;> omega
  · split <;> omega
theorem Twin.take {W w : World} {A CA D cap k : Nat} {buf : List Value} {lost : Int} (h : Twin W w A CA D cap k buf lost) (hk : k ≤ 400) :
    callV Try.prog 17 [.pointer (some ⟨A, 0, none⟩)] w fun v w1 => v = .tuple #[buf.headD (.int .i64 0), .bool (!buf.isEmpty)] ∧ Fm (fun i => i = A ∨ i = CA) w w1 ∧ Fm none' W w1 ∧
      callV Try.prog 18 [.pointer (some ⟨D, 0, none⟩)] w1 fun v' w2 => v' = .tuple #[buf.headD (.int .i64 0), .bool (!buf.isEmpty)] ∧ Fm (fun i => i = D ∨ rowsOf 3 w1 W.heap.size i) w1 w2 ∧ ∃ buf' lost', Twin W w2 A CA D cap (k + 1) buf' lost' := by
  have hl := h.len; have hl0 := h.l0; have hlk := h.lk; obtain ⟨ha, hca, hd⟩ := h.a
  refine (take17_c h.box).mono ?_
  rintro v w1 ⟨rfl, hb1, hf1⟩
  have hF1 : Fm none' W w1 := h.fm.trans' hf1 (by rintro i hi rfl; omega)
  have hr1 := h.ref.keep hf1 h.ne.2 (fun i hi e => (box_no_row h.box (by decide) hi).2 e)
  refine ⟨rfl, hf1.mono fun i _ e => .inr e, hF1, ?_⟩
  refine (take18_c hr1 hF1.size (by omega) h.num.one).mono ?_
  rintro v w2 ⟨rfl, hr2, hf2⟩
  refine ⟨rfl, hf2.mono fun i _ e => .inl e, buf.tail, lost, ?_⟩
  have hb2 := hb1.keep hf2 (fun e => h.ne.1 e.symm) (fun e => h.ne.2 e.symm)
  refine ⟨hb2, hr2, h.num.tail, ?_, h.l0, by omega, hF1.trans' hf2 (by rintro i hi rfl; omega), h.a⟩
  simp; omega
theorem Twin.drain {W w : World} {A CA D cap k : Nat} {buf : List Value} {lost : Int} (h : Twin W w A CA D cap k buf lost) (hk : k ≤ 400) :
    callV Try.prog 21 [.pointer (some ⟨A, 0, none⟩)] w fun v w1 => BoxAt 54 w1 A CA cap [] lost ∧ RefAt w1 W.heap.size D cap buf lost ∧ w1.ownsRow w.heap.size 3 1 v buf.length buf ∧ Fm (fun i => i = CA) w w1 ∧ Fm none' W w1 ∧
      callV Try.prog 22 [.pointer (some ⟨D, 0, none⟩)] w1 fun v' w2 => w2.ownsRow w.heap.size 3 1 v buf.length buf ∧ w2.ownsRow W.heap.size 3 1 v' buf.length buf ∧ Fm (fun i => i = D) w1 w2 ∧ Twin W w2 A CA D cap k [] lost := by
  have hl := h.len; have hl0 := h.l0; have hlk := h.lk; obtain ⟨ha, hca, hd⟩ := h.a
  refine (drain21_c h.box h.num.one (by omega)).mono ?_
  rintro v w1 ⟨hb1, ho1, hf1⟩
  have hF1 : Fm none' W w1 := h.fm.trans' hf1 (by rintro i hi rfl; omega)
  have hr1 := h.ref.keep hf1 h.ne.2 (fun i hi e => (box_no_row h.box (by decide) hi).2 e)
  refine ⟨hb1, hr1, ho1, hf1, hF1, ?_⟩
  refine (drain22_c hr1).mono ?_
  rintro v w2 ⟨ho2, hr2, hf2⟩
  have hb2 := hb1.keep hf2 (fun e => h.ne.1 e.symm) (fun e => h.ne.2 e.symm)
  refine ⟨hf2.owns ho1 fun i hi e => ?_, ho2, hf2, ⟨hb2, hr2, fun x hx => by simp at hx, by simp, h.l0, h.lk, hF1.trans' hf2 (by rintro i hi rfl; omega), h.a⟩⟩
  obtain ⟨_, cur, hc⟩ := own_block ho1 hi
  obtain ⟨s, hD, _⟩ := hr1
  rw [e, hD] at hc
  cases hc

set_option maxHeartbeats 1000000 in
set_option maxRecDepth 20000 in
theorem apart_c (a b : Int) (cp : Option Addr) (cn cc : Nat) (kd nn : Nat → Int) (W : World) (hl : ∀ i, i < cn → ∃ ad, cp = some ad ∧ W.cell? (ad.add (i * 2)) = some (.int .i64 (kd i)) ∧ W.cell? ((ad.add (i * 2)).add 1) = some (.int .i64 (nn i))) (hcn : cn ≤ 140737488351232) :
    callV Try.prog 4 [.int .i64 a, .int .i64 b, .slice cp cn cc] W fun v w' => v = .bool true ∧ Fm none' W w' := by
  refine vc4 a b cp cn cc W _ ?_
  refine (shown_c W).mono ?_
  rintro _ w1 ⟨rfl, hf1⟩
  refine (new13_c a w1).mono ?_
  rintro _ w3 ⟨A, CA, rfl, hA, hCA, hbA, hf3⟩
  refine (new13_c b w3).mono ?_
  rintro _ w5 ⟨B, CB, rfl, hB, hCB, hbB, hf5⟩
  refine (new14_c a w5 W.heap.size).mono ?_
  rintro _ w7 ⟨D, rfl, hD, hr, hf7⟩
  have hlA := box_lt hbA
  have hlB := box_lt hbB
  have hbA := (hbA.keep hf5 id id).keep hf7 id id
  have hbB := hbB.keep hf7 id id
  have hF : Fm none' W w7 := ((hf1.trans hf3).trans hf5).trans hf7
  have s1 := hf1.size; have s3 := hf3.size; have s5 := hf5.size; have s7 := hf7.size
  simp only [isB_i, isTup_i, isInt_i, isSl_i, isPtr_i, isCs_i, isStr_i, isFn_i, isIf_i, rd_i, br_t, br_f, orO_s, orO_n, gd_t, bv_add, bv_sub, bv_mul, bv_eql, bv_neq, bv_lss, bv_leq, bv_gtr, bv_geq, bv_quo, bv_rem, bv_shl, bv_shr, bv_seq, bv_sne, bv_ptr, bv_if, bv_map, bv_nf, bv_bool, bv_sl, bv_fn, uv_not, uv_neg, eqV, nilV, nc_ptr, nc_fn, nc_if, Option.map_some, toN, Nat.mul_one, implies_true, true_and, and_true, and_self, row32, Option.isNone_some]
  obtain ⟨cap, hcap⟩ : ∃ c, c = room a := ⟨_, rfl⟩
  obtain ⟨capB, hcapB⟩ : ∃ c, c = room b := ⟨_, rfl⟩
  rw [← hcap] at hbA hr
  rw [← hcapB] at hbB
  refine ⟨fun _ w' => ∃ buf lost, Twin W w' A CA D cap 100 buf lost, ?_, ?_⟩
  · refine ⟨fun u w' => ∃ k : Nat, k ≤ cn ∧ k ≤ 100 ∧ u 11 = .int .i64 k ∧ ∃ buf lost bufB lostB, Twin W w' A CA D cap k buf lost ∧ BoxAt 54 w' B CB capB bufB lostB ∧ 0 ≤ lostB ∧ lostB ≤ k, fun u _ => 100 - (intOf (u 11)).toNat, ?_, ?_⟩
    · exact ⟨0, by omega, by omega, rfl, [], 0, [], 0, ⟨hbA, hr, fun x hx => by simp at hx, Nat.le_refl _, by omega, by omega, hF, by omega, by omega, by omega⟩, hbB, by omega, by omega⟩
    rintro u w16 ⟨k, hkn, hk1, h11, buf, lost, bufB, lostB, ht, hb, hB0, hBk⟩
    change u 11 = .int .i64 k at h11
    have hend : k = 100 ∨ k = cn → ∃ buf lost, Twin W w16 A CA D cap 100 buf lost := fun _ => ⟨buf, lost, ht.box, ht.ref, ht.num, Nat.le_trans ht.len hk1, ht.l0, by have := ht.lk; omega, ht.fm, ht.a⟩
    simp only [h11, isB_i, isTup_i, isInt_i, isSl_i, isPtr_i, isCs_i, isStr_i, isFn_i, isIf_i, rd_i, br_t, br_f, orO_s, orO_n, gd_t, bv_add, bv_sub, bv_mul, bv_eql, bv_neq, bv_lss, bv_leq, bv_gtr, bv_geq, bv_quo, bv_rem, bv_shl, bv_shr, bv_seq, bv_sne, bv_ptr, bv_if, bv_map, bv_nf, bv_bool, bv_sl, bv_fn, uv_not, uv_neg, eqV, nilV, nc_ptr, nc_fn, nc_if, Option.map_some, toN, Nat.mul_one, implies_true, true_and, and_true, and_self]
    refine br_dec (fun hkb => ?_) (fun hkb => hend (.inr (by omega)))
    refine br_dec (fun hk2 => ?_) (fun hk2 => hend (.inl (by omega)))
    refine (put15_c _ hb hB0 (by omega)).mono ?_
    rintro v22 w23 ⟨-, hb2, hf2⟩
    have ht2 : Twin W w23 A CA D cap k buf lost := ht.keep hf2 (by omega) (fun i hi => by have := box_no_row hb (by decide) hi; omega) (by rintro i (rfl | rfl) <;> omega)
    obtain ⟨ad, rfl, hck, hcn'⟩ := hl k (by omega)
    refine rd_of (v := ad) rfl ⟨by omega, rd_of (ht2.fm.cell hck id) ?_⟩
    simp only [isB_i, isTup_i, isInt_i, isSl_i, isPtr_i, isCs_i, isStr_i, isFn_i, isIf_i, rd_i, br_t, br_f, orO_s, orO_n, gd_t, bv_add, bv_sub, bv_mul, bv_eql, bv_neq, bv_lss, bv_leq, bv_gtr, bv_geq, bv_quo, bv_rem, bv_shl, bv_shr, bv_seq, bv_sne, bv_ptr, bv_if, bv_map, bv_nf, bv_bool, bv_sl, bv_fn, uv_not, uv_neg, eqV, nilV, nc_ptr, nc_fn, nc_if, Option.map_some, toN, Nat.mul_one, implies_true, true_and, and_true, and_self]
    have hbl2 := box_lt hb2
    have hB4 : ∃ l, 0 ≤ l ∧ l ≤ (k : Int) + 1 ∧ BoxAt 54 w23 B CB capB (if bufB.length < capB then bufB ++ [.int .i64 k] else bufB) l := ⟨_, by split <;> omega, by split <;> omega, hb2⟩
    obtain ⟨lB, hlB2, hlB3, hb3⟩ := hB4
    have hstep : ∀ w1 w2 buf' lost', Fm (fun i => i = A ∨ i = CA) w23 w1 → Fm (fun i => i = D ∨ rowsOf 3 w1 W.heap.size i) w1 w2 → Twin W w2 A CA D cap (k + 1) buf' lost' →
        ∃ k' : Nat, k' ≤ cn ∧ k' ≤ 100 ∧ Value.int .i64 ((k : Int) + 1) = .int .i64 k' ∧ ∃ buf lost bufB lostB, Twin W w2 A CA D cap k' buf lost ∧ BoxAt 54 w2 B CB capB bufB lostB ∧ 0 ≤ lostB ∧ lostB ≤ k' := by
      intro w1 w2 buf' lost' g1 g2 t
      have hb4 := hb3.keep g1 (by omega) (by omega)
      refine ⟨k + 1, by omega, by omega, rfl, _, _, _, _, t, hb4.keep g2 ?_ ?_, hlB2, by omega⟩
      · rintro (e | e)
        · omega
        · exact (box_no_row hb4 (by decide) e).1 rfl
      · rintro (e | e)
        · omega
        · exact (box_no_row hb4 (by decide) e).2 rfl
    refine br_dec (fun hkd => ?_) (fun hkd => ?_)
    · refine ⟨fun w' => Fm none' W w', ht2.fm.trans (Fm.drew _), ?_⟩
      have hN : w23.drew.cell? ((ad.add (k * 2)).add 1) = some (.int .i64 (nn k)) := (ht2.fm.trans (Fm.drew _)).cell hcn' id
      refine ⟨by omega, fun _ _ => by omega, rd_of hN ⟨fun w' hw => rd_of (hw.cell hcn' id) rfl, by omega, fun _ _ => by omega, rd_of hN ⟨fun w' hw => rd_of (hw.cell hcn' id) rfl, ?_⟩⟩⟩
      have ht3 : Twin W w23.drew A CA D cap k buf lost := ht2.keep (Fm.drew _) ⟨id, id, id⟩ (fun _ _ => id) (fun _ h => h.elim)
      refine (ht3.put (by omega) (nn k)).mono ?_
      rintro _ w72 ⟨rfl, g1, G1, hc⟩
      refine ⟨G1, hc.mono ?_⟩
      rintro _ w74 ⟨rfl, g2, buf', lost', t⟩
      refine ⟨t.fm, ?_⟩
      simp only [isB_i, isTup_i, isInt_i, isSl_i, isPtr_i, isCs_i, isStr_i, isFn_i, isIf_i, rd_i, br_t, br_f, orO_s, orO_n, gd_t, bv_add, bv_sub, bv_mul, bv_eql, bv_neq, bv_lss, bv_leq, bv_gtr, bv_geq, bv_quo, bv_rem, bv_shl, bv_shr, bv_seq, bv_sne, bv_ptr, bv_if, bv_map, bv_nf, bv_bool, bv_sl, bv_fn, uv_not, uv_neg, eqV, nilV, nc_ptr, nc_fn, nc_if, Option.map_some, toN, Nat.mul_one, implies_true, true_and, and_true, and_self, row4]
      refine br_ndec (fun h => by simp at h) (fun _ => ?_)
      rw [w64 (by omega)]
      refine ⟨hstep _ _ _ _ ((Fm.drew _).none.trans g1) g2 t, ?_⟩
      show 100 - ((k : Int) + 1).toNat < 100 - (k : Int).toNat; omega
    · refine (ht2.take (by omega)).mono ?_
      rintro _ w82 ⟨rfl, g1, -, hc⟩
      obtain ⟨i0, hi0⟩ := ht2.num.head
      rw [hi0] at hc ⊢
      simp only [isB_i, isTup_i, isInt_i, isSl_i, isPtr_i, isCs_i, isStr_i, isFn_i, isIf_i, rd_i, br_t, br_f, orO_s, orO_n, gd_t, bv_add, bv_sub, bv_mul, bv_eql, bv_neq, bv_lss, bv_leq, bv_gtr, bv_geq, bv_quo, bv_rem, bv_shl, bv_shr, bv_seq, bv_sne, bv_ptr, bv_if, bv_map, bv_nf, bv_bool, bv_sl, bv_fn, uv_not, uv_neg, eqV, nilV, nc_ptr, nc_fn, nc_if, Option.map_some, toN, Nat.mul_one, implies_true, true_and, and_true, and_self, List.getElem?_cons_zero, List.getElem?_cons_succ]
      refine hc.mono ?_
      rintro _ w88 ⟨rfl, g2, buf', lost', t⟩
      simp only [isB_i, isTup_i, isInt_i, isSl_i, isPtr_i, isCs_i, isStr_i, isFn_i, isIf_i, rd_i, br_t, br_f, orO_s, orO_n, gd_t, bv_add, bv_sub, bv_mul, bv_eql, bv_neq, bv_lss, bv_leq, bv_gtr, bv_geq, bv_quo, bv_rem, bv_shl, bv_shr, bv_seq, bv_sne, bv_ptr, bv_if, bv_map, bv_nf, bv_bool, bv_sl, bv_fn, uv_not, uv_neg, eqV, nilV, nc_ptr, nc_fn, nc_if, Option.map_some, toN, Nat.mul_one, implies_true, true_and, and_true, and_self, List.getElem?_cons_zero, List.getElem?_cons_succ, row4]
      refine br_ndec (fun h => by simp at h) (fun _ => ?_)
      refine br_ndec (fun h => by simp at h) (fun _ => ?_)
      rw [w64 (by omega)]
      refine ⟨hstep _ _ _ _ g1 g2 t, ?_⟩
      show 100 - ((k : Int) + 1).toNat < 100 - (k : Int).toNat; omega
  · rintro u w100 ⟨buf, lost, ht⟩
    have ht2 : Twin W w100.drew A CA D cap 100 buf lost := ht.keep (Fm.drew _) ⟨id, id, id⟩ (fun _ _ => id) (fun _ h => h.elim)
    obtain ⟨s, hD2, ho⟩ := ht2.ref
    refine ⟨fun w' => w'.cell? ⟨D, 2, none⟩ = some (.int .i64 lost), cellOf hD2 rfl, ?_⟩
    simp only [addr_add, Nat.zero_add]
    refine rd_of (v := .int .i64 lost) (cellOf hD2 rfl) ⟨fun w' hw => rd_of hw rfl, ?_⟩
    refine (lost19_c ht2.box).mono ?_
    rintro _ _ ⟨rfl, rfl⟩
    refine ⟨cellOf hD2 rfl, ?_⟩
    simp only [isB_i, isTup_i, isInt_i, isSl_i, isPtr_i, isCs_i, isStr_i, isFn_i, isIf_i, rd_i, br_t, br_f, orO_s, orO_n, gd_t, bv_add, bv_sub, bv_mul, bv_eql, bv_neq, bv_lss, bv_leq, bv_gtr, bv_geq, bv_quo, bv_rem, bv_shl, bv_shr, bv_seq, bv_sne, bv_ptr, bv_if, bv_map, bv_nf, bv_bool, bv_sl, bv_fn, uv_not, uv_neg, eqV, nilV, nc_ptr, nc_fn, nc_if, Option.map_some, toN, Nat.mul_one, implies_true, true_and, and_true, and_self]
    refine br_dec (fun _ => ?_) (fun h => by simp at h)
    refine (ht2.drain (by omega)).mono ?_
    rintro v139 w140 ⟨-, hr1, -, -, -, hc⟩
    have hcell : ∀ {w' : World} {buf' : List Value}, RefAt w' W.heap.size D cap buf' lost → w'.cell? ⟨D, 2, none⟩ = some (.int .i64 lost) := fun ⟨s, h, _⟩ => cellOf h rfl
    refine ⟨hcell hr1, hc.mono ?_⟩
    rintro v141 w142 ⟨ho1, ho2, -, t⟩
    refine ⟨hcell t.ref, ?_⟩
    have hl2 := ht2.len
    refine (same20_c ho1 ho2 ht2.num (by omega)).mono ?_
    rintro _ w144 ⟨rfl, hf⟩
    exact ⟨hf.cell (hcell t.ref) id, rfl, t.fm.trans hf⟩
end Go.Proofs.Ytmhbgaledhfpkaa
