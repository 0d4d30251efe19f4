/- message: a reader's command.  Conditions: the reader lies as it is said to lie; the fields are cells of another block. -/
import Derived.Test.YtfekkdmnboccfaaRVec
namespace Go.Proofs.Ytfekkdmnboccfaa
set_option linter.unusedSimpArgs false
set_option linter.unusedVariables false
open Go Go.RowKit VC
variable {w : World} {base A R : Nat} {g : Option Nat} {s : RS}
/-- The two steps of a command, both with a sign. -/
def dst (s : RS) (C : Array Value) (i : Nat) : Nat → RS × Array Value
  | 0 => (s, C)
  | j + 1 => ((rdS 8 (dst s C i j).1).2, (dst s C i j).2.setIfInBounds (i + j) (.int .i8 (IntKind.i8.wrap (rdS 8 (dst s C i j).1).1)))
theorem dst_get (s : RS) (C : Array Value) (i : Nat) : ∀ j m, j ≤ m → (dst s C i j).2[i + m]? = C[i + m]? := by
  intro j
  induction j with
  | zero => intro m _; rfl
  | succ j ih => intro m hm; show ((dst s C i j).2.setIfInBounds (i + j) _)[i + m]? = _; rw [set_ne (by omega), ih m (by omega)]
/-- A command is read: the state behind it, the cells. -/
def rdC (s : RS) (C : Array Value) (i : Nat) : RS × Array Value :=
  let a := rdW 16 s
  let b := rdW 2 a.2
  let D := dst b.2 ((C.setIfInBounds i (.int .u16 (IntKind.u16.wrap a.1))).setIfInBounds (i + 1) (.int .u8 (IntKind.u8.wrap b.1))) (i + 2) 2
  let t := rdW 3 D.1
  (t.2, D.2.setIfInBounds (i + 4) (.int .i64 (IntKind.i64.wrap (IntKind.i64.wrap t.1 + 1))))
set_option maxHeartbeats 2000000 in
set_option maxRecDepth 20000 in
theorem rcommand40_c {B i tB : Nat} {C : Array Value} {q b dx dy t : Int} (h : RdAt w base A R s g) (hB : w.heap[B]? = some (.cells C tB (0, 0)))
    (h0 : C[i]? = some (.int .u16 q)) (h1 : C[i + 1]? = some (.int .u8 b)) (h2 : C[i + 2]? = some (.int .i8 dx)) (h3 : C[i + 3]? = some (.int .i8 dy)) (h4 : C[i + 4]? = some (.int .i64 t)) (hBA : B ≠ A) (hBR : B ≠ R) (hBg : g ≠ some B) :
    callV Try.prog 40 [rv A, .pointer (some ⟨B, i, none⟩)] w (RdP base A R B tB g w (rdC s C i).1 (rdC s C i).2) := by
  have hBl := lt_of_blk hB
  have hl := h.lt
  refine vc40 _ ⟨B, i, none⟩ w _ ?_
  refine (rnum41_c (k := 16) (by omega) h hB h0 hBA hBR hBg).mono ?_
  rintro _ wa ⟨rfl, hra, hBa, hfa⟩
  simp only [addr_add]
  refine (rnum60_c (k := 2) (x := b) (by omega) hra hBa (by rw [set_ne (by omega), h1]) hBA hBR hBg).mono ?_
  rintro _ wb ⟨rfl, hrb, hBb, hfb⟩
  obtain ⟨C2, hC2⟩ : ∃ C2, C2 = (C.setIfInBounds i (.int .u16 (IntKind.u16.wrap (rdW 16 s).1))).setIfInBounds (i + 1) (.int .u8 (IntKind.u8.wrap (rdW 2 (rdW 16 s).2).1)) := ⟨_, rfl⟩
  obtain ⟨s2, hs2⟩ : ∃ s2, s2 = (rdW 2 (rdW 16 s).2).2 := ⟨_, rfl⟩
  rw [← hC2] at hBb
  rw [← hs2] at hrb
  have hC2g : ∀ m, 2 ≤ m → C2[i + m]? = C[i + m]? := fun m hm => by rw [hC2, set_ne (by omega), set_ne (by omega)]
  have hgoal : rdC s C i = ((rdW 3 (dst s2 C2 (i + 2) 2).1).2, (dst s2 C2 (i + 2) 2).2.setIfInBounds (i + 4) (.int .i64 (IntKind.i64.wrap (IntKind.i64.wrap (rdW 3 (dst s2 C2 (i + 2) 2).1).1 + 1)))) := by rw [hC2, hs2]; rfl
  rw [hgoal]
  have hFb : Fm (fun i => i = A ∨ i = R ∨ i = B) w wb := hfa.trans hfb
  refine ⟨fun _ => True, trivial, ?_⟩
  simp only [isB_i, isK_i, isP_i, isTup_i, isInt_i, isSl_i, isPtr_i, isCs_i, isStr_i, isFn_i, isIf_i, rd_i, br_t, br_f, orO_s, orO_n, gd_t, bv_add, bv_sub, bv_mul, bv_eql, bv_neq, bv_lss, bv_leq, bv_gtr, bv_geq, bv_quo, bv_rem, bv_shl, bv_shr, bv_seq, bv_sne, bv_ptr, bv_if, bv_map, bv_nf, bv_bool, bv_sl, bv_fn, uv_not, uv_neg, eqV, nilV, nc_ptr, nc_fn, nc_if, Option.map_some, toN, Nat.mul_one, implies_true, true_and, and_true, and_self, addr_add]
  refine build_2 (by rw [row121]) row120 rfl rfl rfl fun wc hbc hsc hfc => ?_
  have hFc' : Fm none' wb wc := (Fm.drew wb).trans hfc
  have hFc : Fm (fun i => i = A ∨ i = R ∨ i = B) w wc := hFb.trans hFc'.none
  simp only [isB_i, isK_i, isP_i, isTup_i, isInt_i, isSl_i, isPtr_i, isCs_i, isStr_i, isFn_i, isIf_i, rd_i, br_t, br_f, orO_s, orO_n, gd_t, bv_add, bv_sub, bv_mul, bv_eql, bv_neq, bv_lss, bv_leq, bv_gtr, bv_geq, bv_quo, bv_rem, bv_shl, bv_shr, bv_seq, bv_sne, bv_ptr, bv_if, bv_map, bv_nf, bv_bool, bv_sl, bv_fn, uv_not, uv_neg, eqV, nilV, nc_ptr, nc_fn, nc_if, Option.map_some, toN, Nat.mul_one, implies_true, true_and, and_true, and_self]
  obtain ⟨S, hS⟩ : ∃ S, S = wb.heap.size := ⟨_, rfl⟩
  have hbc : wc.heap[S]? = some (.cells #[.pointer (some ⟨B, i + 2, none⟩), .pointer (some ⟨B, i + 3, none⟩)] 120 (0, 0)) := by rw [hS]; exact hbc
  have hSB : w.heap.size ≤ S := by rw [hS]; exact hFb.size
  have hcell : ∀ j, j < 2 → ∃ x, C2[i + 2 + j]? = some (.int .i8 x) := by
    intro j hj
    match j, hj with
    | 0, _ => exact ⟨dx, by rw [show i + 2 + 0 = i + 2 from rfl, hC2g 2 (by omega), h2]⟩
    | 1, _ => exact ⟨dy, by rw [show i + 2 + 1 = i + 3 from rfl, hC2g 3 (by omega), h3]⟩
  refine ⟨fun u w' => ∃ j : Nat, j ≤ 2 ∧ u 26 = .int .i64 j ∧ RdAt w' base A R (dst s2 C2 (i + 2) j).1 g ∧ w'.heap[B]? = some (.cells (dst s2 C2 (i + 2) j).2 tB (0, 0)) ∧ Fm (fun i => i = A ∨ i = R ∨ i = B) w w' ∧
    w'.heap[S]? = some (.cells #[.pointer (some ⟨B, i + 2, none⟩), .pointer (some ⟨B, i + 3, none⟩)] 120 (0, 0)), fun u _ => 2 - (intOf (u 26)).toNat, ?_, ?_⟩
  · exact ⟨0, by omega, rfl, hrb.keep hFc' id id fun _ _ y => y, hFc'.keep hBb id, hFc, hbc⟩
  rintro u w29 ⟨j, hj, h26, hr, hB29, hF, hbS⟩
  change u 26 = .int .i64 j at h26
  simp only [h26, isB_i, isK_i, isP_i, isTup_i, isInt_i, isSl_i, isPtr_i, isCs_i, isStr_i, isFn_i, isIf_i, rd_i, br_t, br_f, orO_s, orO_n, gd_t, bv_add, bv_sub, bv_mul, bv_eql, bv_neq, bv_lss, bv_leq, bv_gtr, bv_geq, bv_quo, bv_rem, bv_shl, bv_shr, bv_seq, bv_sne, bv_ptr, bv_if, bv_map, bv_nf, bv_bool, bv_sl, bv_fn, uv_not, uv_neg, eqV, nilV, nc_ptr, nc_fn, nc_if, Option.map_some, toN, Nat.mul_one, implies_true, true_and, and_true, and_self]
  have hSl := lt_of_blk hbS
  have hB29l := lt_of_blk hB29
  have hl29 := hr.lt
  refine br_dec (fun hj2 => ?_) (fun hj2 => ?_)
  · obtain ⟨x, hx⟩ := hcell j (by omega)
    have hCj : (dst s2 C2 (i + 2) j).2[i + 2 + j]? = some (.int .i8 x) := by rw [dst_get s2 C2 (i + 2) j j (Nat.le_refl _), hx]
    have hic := (Array.getElem?_eq_some_iff.1 hCj).1
    refine ⟨by omega, ?_⟩
    have hptr : w29.cell? ⟨S, j, none⟩ = some (.pointer (some ⟨B, i + 2 + j, none⟩)) := by
      match j, (show j < 2 by omega) with
      | 0, _ => exact cellOf hbS rfl
      | 1, _ => exact cellOf hbS rfl
    rw [show wb.drew.heap.size = S from hS.symm]
    simp only [addr_add, Nat.zero_add]
    refine rd_of hptr ?_
    simp only [isB_i, isK_i, isP_i, isTup_i, isInt_i, isSl_i, isPtr_i, isCs_i, isStr_i, isFn_i, isIf_i, rd_i, br_t, br_f, orO_s, orO_n, gd_t, bv_add, bv_sub, bv_mul, bv_eql, bv_neq, bv_lss, bv_leq, bv_gtr, bv_geq, bv_quo, bv_rem, bv_shl, bv_shr, bv_seq, bv_sne, bv_ptr, bv_if, bv_map, bv_nf, bv_bool, bv_sl, bv_fn, uv_not, uv_neg, eqV, nilV, nc_ptr, nc_fn, nc_if, Option.map_some, toN, Nat.mul_one, implies_true, true_and, and_true, and_self]
    refine rd_of (v := .int .i8 x) (cellOf hB29 hCj) ?_
    simp only [isB_i, isK_i, isP_i, isTup_i, isInt_i, isSl_i, isPtr_i, isCs_i, isStr_i, isFn_i, isIf_i, rd_i, br_t, br_f, orO_s, orO_n, gd_t, bv_add, bv_sub, bv_mul, bv_eql, bv_neq, bv_lss, bv_leq, bv_gtr, bv_geq, bv_quo, bv_rem, bv_shl, bv_shr, bv_seq, bv_sne, bv_ptr, bv_if, bv_map, bv_nf, bv_bool, bv_sl, bv_fn, uv_not, uv_neg, eqV, nilV, nc_ptr, nc_fn, nc_if, Option.map_some, toN, Nat.mul_one, implies_true, true_and, and_true, and_self]
    refine allocC_of fun w43 hb43 hs43 hf43 => ?_
    refine stC_one hb43 (by simp) rfl fun w44 hb44 hf44 => ?_
    have hF44 : Fm none' w29 w44 := hf43.trans' hf44 (by rintro i hi rfl; omega)
    refine rmeth_signed ?_
    refine (signed86_c (k := 8) (by omega) (hr.keep hF44 id id fun _ _ y => y) hb44 (by simp) (by omega) (by omega) (by intro e; have := hl29.2.2 _ e; omega)).mono ?_
    rintro _ w50 ⟨rfl, h50, hb50, hf50⟩
    refine rd_of (v := .int .i64 (rdS 8 (dst s2 C2 (i + 2) j).1).1) (cellOf hb50 rfl) ?_
    simp only [isB_i, isK_i, isP_i, isTup_i, isInt_i, isSl_i, isPtr_i, isCs_i, isStr_i, isFn_i, isIf_i, rd_i, br_t, br_f, orO_s, orO_n, gd_t, bv_add, bv_sub, bv_mul, bv_eql, bv_neq, bv_lss, bv_leq, bv_gtr, bv_geq, bv_quo, bv_rem, bv_shl, bv_shr, bv_seq, bv_sne, bv_ptr, bv_if, bv_map, bv_nf, bv_bool, bv_sl, bv_fn, uv_not, uv_neg, eqV, nilV, nc_ptr, nc_fn, nc_if, Option.map_some, toN, Nat.mul_one, implies_true, true_and, and_true, and_self]
    have hB50 := hf50.keep (hF44.keep hB29 id) (by rintro (e | e | e); exact hBA e; exact hBR e; omega)
    have hbS50 := hf50.keep (hF44.keep hbS id) (by rintro (e | e | e) <;> omega)
    refine stC_one hB50 hic rfl fun w55 hB55 hf55 => ?_
    rw [w64 (n := (j : Int) + 1) (by omega)]
    refine ⟨⟨j + 1, by omega, rfl, h50.keep hf55 (fun e => hBA e.symm) (fun e => hBR e.symm) (fun m hm e => hBg (by rw [hm, e])), hB55, ?_, hf55.keep hbS50 (by omega)⟩, ?_⟩
    · refine ((hF.trans hF44.none).trans' hf50 ?_).trans' hf55 ?_
      · rintro m hm (e | e | e)
        · exact .inl e
        · exact .inr (.inl e)
        · have := hF.size; omega
      · rintro m hm e; exact .inr (.inr e)
    · show 2 - ((j : Int) + 1).toNat < 2 - (j : Int).toNat; omega
  · have : j = 2 := by omega
    subst this
    have ht : (dst s2 C2 (i + 2) 2).2[i + 4]? = some (.int .i64 t) := by rw [show i + 4 = i + 2 + 2 from rfl, dst_get s2 C2 (i + 2) 2 2 (Nat.le_refl _), show i + 2 + 2 = i + 4 from rfl, hC2g 4 (by omega), h4]
    have htc := (Array.getElem?_eq_some_iff.1 ht).1
    refine rd_of (v := .int .i64 t) (cellOf hB29 ht) ?_
    simp only [isB_i, isK_i, isP_i, isTup_i, isInt_i, isSl_i, isPtr_i, isCs_i, isStr_i, isFn_i, isIf_i, rd_i, br_t, br_f, orO_s, orO_n, gd_t, bv_add, bv_sub, bv_mul, bv_eql, bv_neq, bv_lss, bv_leq, bv_gtr, bv_geq, bv_quo, bv_rem, bv_shl, bv_shr, bv_seq, bv_sne, bv_ptr, bv_if, bv_map, bv_nf, bv_bool, bv_sl, bv_fn, uv_not, uv_neg, eqV, nilV, nc_ptr, nc_fn, nc_if, Option.map_some, toN, Nat.mul_one, implies_true, true_and, and_true, and_self]
    refine allocC_of fun w61 hb61 hs61 hf61 => ?_
    refine stC_one hb61 (by simp) rfl fun w62 hb62 hf62 => ?_
    have hF62 : Fm none' w29 w62 := hf61.trans' hf62 (by rintro i hi rfl; omega)
    refine (rnum30_c (k := 3) (by omega) (hr.keep hF62 id id fun _ _ y => y) hb62 rfl (by omega) (by omega) (by intro e; have := hl29.2.2 _ e; omega)).mono ?_
    rintro _ w64' ⟨rfl, h64, hb64, hf64⟩
    refine rd_of (v := .int .i64 (IntKind.i64.wrap (rdW 3 (dst s2 C2 (i + 2) 2).1).1)) (cellOf hb64 rfl) ?_
    simp only [isB_i, isK_i, isP_i, isTup_i, isInt_i, isSl_i, isPtr_i, isCs_i, isStr_i, isFn_i, isIf_i, rd_i, br_t, br_f, orO_s, orO_n, gd_t, bv_add, bv_sub, bv_mul, bv_eql, bv_neq, bv_lss, bv_leq, bv_gtr, bv_geq, bv_quo, bv_rem, bv_shl, bv_shr, bv_seq, bv_sne, bv_ptr, bv_if, bv_map, bv_nf, bv_bool, bv_sl, bv_fn, uv_not, uv_neg, eqV, nilV, nc_ptr, nc_fn, nc_if, Option.map_some, toN, Nat.mul_one, implies_true, true_and, and_true, and_self]
    have hB64 := hf64.keep (hF62.keep hB29 id) (by rintro (e | e | e); exact hBA e; exact hBR e; omega)
    refine stC_one hB64 htc rfl fun w67 hB67 hf67 => ⟨rfl, h64.keep hf67 (fun e => hBA e.symm) (fun e => hBR e.symm) (fun m hm e => hBg (by rw [hm, e])), hB67, ?_⟩
    refine ((hF.trans hF62.none).trans' hf64 ?_).trans' hf67 ?_
    · rintro m hm (e | e | e)
      · exact .inl e
      · exact .inr (.inl e)
      · have := hF.size; omega
    · rintro m hm e; exact .inr (.inr e)
end Go.Proofs.Ytfekkdmnboccfaa
