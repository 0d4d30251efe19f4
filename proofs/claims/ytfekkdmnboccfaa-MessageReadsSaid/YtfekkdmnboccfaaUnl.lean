/- message's law 8: unlike messages have unlike bytes.  Conditions: the messages may be read. -/
import Derived.Test.YtfekkdmnboccfaaCuts
namespace Go.Proofs.Ytfekkdmnboccfaa
set_option linter.unusedSimpArgs false
set_option linter.unusedVariables false
open Go Go.RowKit VC
variable {w : World}
/-- few, walked. -/
theorem few_run {ms : List Msg} {p : Option Addr} {c : Nat} (hin : In w p ms) :
    callV Try.prog 13 [.slice p ms.length c] w fun v w' => ∃ q d, v = .slice q (fewM ms).length d ∧ MsgsAt w' w'.heap.size q (fewM ms) ∧ Fm none' w w' := by
  refine (few13_c hin.rd hin.cap (Nat.le_refl _)).mono ?_
  rintro v w4 ⟨hrow, hf4⟩
  obtain ⟨p4, c4, rfl⟩ : ∃ p4 c4, v = .slice p4 (fewM ms).length c4 := by
    obtain ⟨qs, hq, ho, -⟩ := hrow
    obtain ⟨p4, c4, h, -⟩ := own_readS ho
    exact ⟨p4, c4, h⟩
  obtain ⟨-, hat⟩ := hrow.at hf4.size
  exact ⟨p4, c4, rfl, hat, hf4⟩
/-- Encode, walked. -/
theorem enc_run {ms : List Msg} {p : Option Addr} {c : Nat} (hm : MsgsAt w w.heap.size p ms) (hok : Msok ms) :
    callV Try.prog 14 [.slice p ms.length c] w fun v w' => ∃ q d, v = .tuple #[.slice q (encodeM ms).1.length d, .int .i64 (encodeM ms).2] ∧ BytesAt w' q (encodeM ms).1 ∧ (encodeM ms).1.length ≤ d ∧ Fm none' w w' := by
  refine (encode14_c hm (Nat.le_refl _) hok).mono ?_
  rintro _ w9 ⟨sv, rfl, hown9, hf9⟩
  obtain ⟨p9, c9, rfl, -⟩ := own_read hown9
  exact ⟨p9, c9, rfl, BytesAt.of_own hown9, own_cap hown9, hf9⟩
theorem MsgsAt.fm {w w' : World} {p : Option Addr} {ms : List Msg} (h : MsgsAt w w.heap.size p ms) (f : Fm none' w w') : MsgsAt w' w'.heap.size p ms := (h.keep f fun _ _ => id).up f.size
theorem enc_inj {l m : List Msg} (hl : Msok l) (hm : Msok m) (h1 : (encodeM l).2 = 0) (h2 : (encodeM m).2 = 0) : (encodeM l).1 = (encodeM m).1 ↔ l = m := by
  obtain ⟨a1, a2, a3, a4⟩ := enc_ok hl h1
  obtain ⟨b1, b2, b3, b4⟩ := enc_ok hm h2
  rw [a4, b4]
  constructor
  · intro h
    have hd := dec_enc a1 a2 a3
    rw [h, dec_enc b1 b2 b3] at hd
    exact (congrArg Prod.fst hd).symm
  · intro h; rw [h]
theorem enc_range (l : List Msg) : ∀ y ∈ (encodeM l).1, 0 ≤ y ∧ y < 256 := by
  unfold encodeM
  split
  · split
    · intro y hy; cases hy
    · exact pack_range _
  · intro y hy; cases hy
set_option maxRecDepth 20000 in
set_option maxHeartbeats 1000000 in
theorem unlike_c {ms ms' : List Msg} {p p' : Option Addr} {n n' c c' : Nat} (hn : n = ms.length) (hin : In w p ms) (hn' : n' = ms'.length) (hin' : In w p' ms') :
    callV Try.prog 8 [.slice p n c, .slice p' n' c'] w fun v w' => v = .bool true ∧ Fm none' w w' := by
  subst hn hn'
  refine vc8 p ms.length c p' ms'.length c' w _ ?_
  refine shown12_c.mono ?_
  rintro _ w1 ⟨rfl, hf1⟩
  simp only [isB_i, isK_i, isP_i, isTup_i, isInt_i, isSl_i, isPtr_i, isCs_i, isStr_i, isFn_i, isIf_i, rd_i, br_t, br_f, orO_s, orO_n, gd_t, bv_add, bv_sub, bv_mul, bv_eql, bv_neq, bv_lss, bv_leq, bv_gtr, bv_geq, bv_quo, bv_rem, bv_shl, bv_shr, bv_seq, bv_sne, bv_ptr, bv_if, bv_map, bv_nf, bv_bool, bv_sl, bv_fn, uv_not, uv_neg, eqV, nilV, nc_ptr, nc_fn, nc_if, Option.map_some, toN, Nat.mul_one, implies_true, true_and, and_true, and_self]
  obtain ⟨hok, hl⟩ := few_ok hin.ok
  obtain ⟨hok', hl'⟩ := few_ok hin'.ok
  refine (few_run (hin.keep hf1)).mono ?_
  rintro _ w4 ⟨q, d, rfl, hat, hf4⟩
  simp only [isB_i, isK_i, isP_i, isTup_i, isInt_i, isSl_i, isPtr_i, isCs_i, isStr_i, isFn_i, isIf_i, rd_i, br_t, br_f, orO_s, orO_n, gd_t, bv_add, bv_sub, bv_mul, bv_eql, bv_neq, bv_lss, bv_leq, bv_gtr, bv_geq, bv_quo, bv_rem, bv_shl, bv_shr, bv_seq, bv_sne, bv_ptr, bv_if, bv_map, bv_nf, bv_bool, bv_sl, bv_fn, uv_not, uv_neg, eqV, nilV, nc_ptr, nc_fn, nc_if, Option.map_some, toN, Nat.mul_one, implies_true, true_and, and_true, and_self]
  refine (few_run (hin'.keep (hf1.trans hf4))).mono ?_
  rintro _ w9 ⟨q', d', rfl, hat', hf9⟩
  simp only [isB_i, isK_i, isP_i, isTup_i, isInt_i, isSl_i, isPtr_i, isCs_i, isStr_i, isFn_i, isIf_i, rd_i, br_t, br_f, orO_s, orO_n, gd_t, bv_add, bv_sub, bv_mul, bv_eql, bv_neq, bv_lss, bv_leq, bv_gtr, bv_geq, bv_quo, bv_rem, bv_shl, bv_shr, bv_seq, bv_sne, bv_ptr, bv_if, bv_map, bv_nf, bv_bool, bv_sl, bv_fn, uv_not, uv_neg, eqV, nilV, nc_ptr, nc_fn, nc_if, Option.map_some, toN, Nat.mul_one, implies_true, true_and, and_true, and_self]
  refine (enc_run (hat.fm hf9) hok).mono ?_
  rintro _ w14 ⟨e, ed, rfl, hby, -, hf14⟩
  simp only [isB_i, isK_i, isP_i, isTup_i, isInt_i, isSl_i, isPtr_i, isCs_i, isStr_i, isFn_i, isIf_i, rd_i, br_t, br_f, orO_s, orO_n, gd_t, bv_add, bv_sub, bv_mul, bv_eql, bv_neq, bv_lss, bv_leq, bv_gtr, bv_geq, bv_quo, bv_rem, bv_shl, bv_shr, bv_seq, bv_sne, bv_ptr, bv_if, bv_map, bv_nf, bv_bool, bv_sl, bv_fn, uv_not, uv_neg, eqV, nilV, nc_ptr, nc_fn, nc_if, Option.map_some, toN, Nat.mul_one, implies_true, true_and, and_true, and_self, List.getElem?_cons_zero, List.getElem?_cons_succ]
  refine (enc_run (hat'.fm hf14) hok').mono ?_
  rintro _ w24 ⟨e', ed', rfl, hby', -, hf24⟩
  simp only [isB_i, isK_i, isP_i, isTup_i, isInt_i, isSl_i, isPtr_i, isCs_i, isStr_i, isFn_i, isIf_i, rd_i, br_t, br_f, orO_s, orO_n, gd_t, bv_add, bv_sub, bv_mul, bv_eql, bv_neq, bv_lss, bv_leq, bv_gtr, bv_geq, bv_quo, bv_rem, bv_shl, bv_shr, bv_seq, bv_sne, bv_ptr, bv_if, bv_map, bv_nf, bv_bool, bv_sl, bv_fn, uv_not, uv_neg, eqV, nilV, nc_ptr, nc_fn, nc_if, Option.map_some, toN, Nat.mul_one, implies_true, true_and, and_true, and_self, List.getElem?_cons_zero, List.getElem?_cons_succ]
  have hF := (((hf1.trans hf4).trans hf9).trans hf14).trans hf24
  refine br_ndec (fun he => hF) (fun he => ?_)
  refine br_ndec (fun he' => hF) (fun he' => ?_)
  have hS : BytesAt w24.drew e (encodeM (fewM ms)).1 ∧ BytesAt w24.drew e' (encodeM (fewM ms')).1 := ⟨hby.keep (hf24.trans (Fm.drew w24)) fun _ _ => id, hby'.keep (Fm.drew w24) fun _ _ => id⟩
  have hcv : ∀ {p : Option Addr} {c : Nat} {ys : List Int} {w : World} {K : Value → World → Prop}, BytesAt w p ys → K (.string (strOfNums ys)) w → runs Try.prog (convert 25 9 (.slice p ys.length c)) w K := fun h k => conv_bytes (by rw [row25]) (by rw [row5]) (by rw [row9]) rfl h k
  refine ⟨fun w' => BytesAt w' e (encodeM (fewM ms)).1 ∧ BytesAt w' e' (encodeM (fewM ms')).1, hS, ?_⟩
  simp only [isB_i, isK_i, isP_i, isTup_i, isInt_i, isSl_i, isPtr_i, isCs_i, isStr_i, isFn_i, isIf_i, rd_i, br_t, br_f, orO_s, orO_n, gd_t, bv_add, bv_sub, bv_mul, bv_eql, bv_neq, bv_lss, bv_leq, bv_gtr, bv_geq, bv_quo, bv_rem, bv_shl, bv_shr, bv_seq, bv_sne, bv_ptr, bv_if, bv_map, bv_nf, bv_bool, bv_sl, bv_fn, uv_not, uv_neg, eqV, nilV, nc_ptr, nc_fn, nc_if, Option.map_some, toN, Nat.mul_one, implies_true, true_and, and_true, and_self]
  refine hcv hS.1 ?_
  simp only [isB_i, isK_i, isP_i, isTup_i, isInt_i, isSl_i, isPtr_i, isCs_i, isStr_i, isFn_i, isIf_i, rd_i, br_t, br_f, orO_s, orO_n, gd_t, bv_add, bv_sub, bv_mul, bv_eql, bv_neq, bv_lss, bv_leq, bv_gtr, bv_geq, bv_quo, bv_rem, bv_shl, bv_shr, bv_seq, bv_sne, bv_ptr, bv_if, bv_map, bv_nf, bv_bool, bv_sl, bv_fn, uv_not, uv_neg, eqV, nilV, nc_ptr, nc_fn, nc_if, Option.map_some, toN, Nat.mul_one, implies_true, true_and, and_true, and_self]
  refine ⟨fun w' hw => hcv hw.1 (by simp only [isB_i, isK_i, isP_i, isTup_i, isInt_i, isSl_i, isPtr_i, isCs_i, isStr_i, isFn_i, isIf_i, rd_i, br_t, br_f, orO_s, orO_n, gd_t, bv_add, bv_sub, bv_mul, bv_eql, bv_neq, bv_lss, bv_leq, bv_gtr, bv_geq, bv_quo, bv_rem, bv_shl, bv_shr, bv_seq, bv_sne, bv_ptr, bv_if, bv_map, bv_nf, bv_bool, bv_sl, bv_fn, uv_not, uv_neg, eqV, nilV, nc_ptr, nc_fn, nc_if, Option.map_some, toN, Nat.mul_one, implies_true, true_and, and_true, and_self]), ?_⟩
  refine hcv hS.2 ?_
  simp only [isB_i, isK_i, isP_i, isTup_i, isInt_i, isSl_i, isPtr_i, isCs_i, isStr_i, isFn_i, isIf_i, rd_i, br_t, br_f, orO_s, orO_n, gd_t, bv_add, bv_sub, bv_mul, bv_eql, bv_neq, bv_lss, bv_leq, bv_gtr, bv_geq, bv_quo, bv_rem, bv_shl, bv_shr, bv_seq, bv_sne, bv_ptr, bv_if, bv_map, bv_nf, bv_bool, bv_sl, bv_fn, uv_not, uv_neg, eqV, nilV, nc_ptr, nc_fn, nc_if, Option.map_some, toN, Nat.mul_one, implies_true, true_and, and_true, and_self]
  refine ⟨fun w' hw => hcv hw.2 (by simp only [isB_i, isK_i, isP_i, isTup_i, isInt_i, isSl_i, isPtr_i, isCs_i, isStr_i, isFn_i, isIf_i, rd_i, br_t, br_f, orO_s, orO_n, gd_t, bv_add, bv_sub, bv_mul, bv_eql, bv_neq, bv_lss, bv_leq, bv_gtr, bv_geq, bv_quo, bv_rem, bv_shl, bv_shr, bv_seq, bv_sne, bv_ptr, bv_if, bv_map, bv_nf, bv_bool, bv_sl, bv_fn, uv_not, uv_neg, eqV, nilV, nc_ptr, nc_fn, nc_if, Option.map_some, toN, Nat.mul_one, implies_true, true_and, and_true, and_self]), ?_⟩
  refine (same20_c (w := w24.drew) (((hat.fm hf9).fm hf14).fm (hf24.trans (Fm.drew w24))) ((hat'.fm hf14).fm (hf24.trans (Fm.drew w24))) (fun m hm => (hok.ok m hm).bytes) (fun m hm => (hok'.ok m hm).bytes) (by have := few_len ms; omega)).mono ?_
  rintro _ w63 ⟨rfl, hf63⟩
  simp only [isB_i, isK_i, isP_i, isTup_i, isInt_i, isSl_i, isPtr_i, isCs_i, isStr_i, isFn_i, isIf_i, rd_i, br_t, br_f, orO_s, orO_n, gd_t, bv_add, bv_sub, bv_mul, bv_eql, bv_neq, bv_lss, bv_leq, bv_gtr, bv_geq, bv_quo, bv_rem, bv_shl, bv_shr, bv_seq, bv_sne, bv_ptr, bv_if, bv_map, bv_nf, bv_bool, bv_sl, bv_fn, uv_not, uv_neg, eqV, nilV, nc_ptr, nc_fn, nc_if, Option.map_some, toN, Nat.mul_one, implies_true, true_and, and_true, and_self]
  refine ⟨⟨hS.1.keep hf63 fun _ _ => id, hS.2.keep hf63 fun _ _ => id⟩, ?_, (hF.trans (Fm.drew w24)).trans hf63⟩
  congr 1
  rw [decide_eq_true_eq, decide_eq_decide, strOfNums_inj (enc_range _) (enc_range _)]
  exact enc_inj hok hok' he he'
end Go.Proofs.Ytfekkdmnboccfaa
