/- message's law 5: what is written is read.  Conditions: the arguments may be read. -/
import Derived.Test.YtfekkdmnboccfaaUnl
import Derived.Test.YtfekkdmnboccfaaC8
namespace Go.Proofs.Ytfekkdmnboccfaa
set_option linter.unusedSimpArgs false
set_option linter.unusedVariables false
open Go Go.RowKit VC
variable {w : World}
/-- Decode, walked. -/
theorem dec_run {ys : List Int} {p : Option Addr} {n c : Nat} (hn : n = ys.length) (hb : BytesAt w p ys) (hy : ∀ y ∈ ys, 0 ≤ y ∧ y < 256) (hl : ys.length ≤ 1000000) :
    callV Try.prog 18 [.slice p n c] w fun v w' => ∃ q d, v = .tuple #[.slice q (decodeM ys).1.length d, .int .i64 (decodeM ys).2] ∧ MsgsAt w' w'.heap.size q (decodeM ys).1 ∧ Fm none' w w' := by
  subst hn
  refine (decode18_c hb hy hl).mono ?_
  rintro _ w' ⟨sv, rfl, hown, hf⟩
  obtain ⟨q, d, rfl, hm⟩ := hown.at
  exact ⟨q, d, rfl, hm, hf⟩
theorem conv_run {p : Option Addr} {n c : Nat} {ys : List Int} {K : Value → World → Prop} (hn : n = ys.length) (h : BytesAt w p ys) (k : K (.string (strOfNums ys)) w) : runs Try.prog (convert 25 9 (.slice p n c)) w K :=
  conv_bytes (by rw [row25]) (by rw [row5]) (by rw [row9]) hn h k
theorem take_run {p : Option Addr} {n c k : Nat} {ys : List Int} {K : Value → World → Prop} (hn : n = ys.length) (hnc : n ≤ c) (hb : BytesAt w p ys) (k1 : ∀ q, BytesAt w q (ys.take k) → K (.slice q (ys.take k).length c) w) :
    runs Try.prog (Instr.sliceAt 25 (.slice p n c) none (some (.int .i64 (min (n : Int) k))) none) w K := by
  subst hn
  have hm : min (ys.length : Int) (k : Int) = ((ys.take k).length : Int) := by rw [List.length_take]; omega
  rw [hm]
  exact sliceAt_hi (by rw [row25]) row5 (by omega) (by rw [List.length_take]; omega) (k1 _ ((hb.take k).zero c))
theorem rok_msok {l : List Msg} (h : ∀ m ∈ l, Rok m) (h16 : l.length ≤ 16) : Msok l := ⟨fun m hm => (h m hm).ok, fun m hm => by have := (h m hm).len; omega, by omega⟩
set_option maxRecDepth 20000 in
set_option maxHeartbeats 1000000 in
theorem back_c {ms : List Msg} {ys : List Int} {p p' : Option Addr} {n n' c c' : Nat} (hn : n = ms.length) (hin : In w p ms) (hn' : n' = ys.length) (hnc : n' ≤ c') (hby : BytesAt w p' ys) (hyr : ∀ y ∈ ys, 0 ≤ y ∧ y < 256) :
    callV Try.prog 5 [.slice p n c, .slice p' n' c'] w fun v w' => v = .bool true ∧ Fm none' w w' := by
  subst hn
  refine vc5 p ms.length c p' n' c' w _ ?_
  refine shown12_c.mono ?_
  rintro _ w1 ⟨rfl, hf1⟩
  simp only [isB_i, isK_i, isP_i, isTup_i, isInt_i, isSl_i, isPtr_i, isCs_i, isStr_i, isFn_i, isIf_i, rd_i, br_t, br_f, orO_s, orO_n, gd_t, bv_add, bv_sub, bv_mul, bv_eql, bv_neq, bv_lss, bv_leq, bv_gtr, bv_geq, bv_quo, bv_rem, bv_shl, bv_shr, bv_seq, bv_sne, bv_ptr, bv_if, bv_map, bv_nf, bv_bool, bv_sl, bv_fn, uv_not, uv_neg, eqV, nilV, nc_ptr, nc_fn, nc_if, Option.map_some, toN, Nat.mul_one, implies_true, true_and, and_true, and_self]
  obtain ⟨hok, hl⟩ := few_ok hin.ok
  refine (few_run (hin.keep hf1)).mono ?_
  rintro _ w4 ⟨q, d, rfl, hat, hf4⟩
  simp only [isB_i, isK_i, isP_i, isTup_i, isInt_i, isSl_i, isPtr_i, isCs_i, isStr_i, isFn_i, isIf_i, rd_i, br_t, br_f, orO_s, orO_n, gd_t, bv_add, bv_sub, bv_mul, bv_eql, bv_neq, bv_lss, bv_leq, bv_gtr, bv_geq, bv_quo, bv_rem, bv_shl, bv_shr, bv_seq, bv_sne, bv_ptr, bv_if, bv_map, bv_nf, bv_bool, bv_sl, bv_fn, uv_not, uv_neg, eqV, nilV, nc_ptr, nc_fn, nc_if, Option.map_some, toN, Nat.mul_one, implies_true, true_and, and_true, and_self]
  have hF4 := hf1.trans hf4
  obtain ⟨zs, hzs⟩ : ∃ zs, zs = ys.take 1300 := ⟨_, rfl⟩
  have hzl : zs.length ≤ 1300 := by rw [hzs, List.length_take]; omega
  have hzr : ∀ y ∈ zs, 0 ≤ y ∧ y < 256 := fun y hy => hyr y (List.mem_of_mem_take (hzs ▸ hy))
  refine take_run (k := 1300) hn' hnc (hby.keep hF4 fun _ _ => id) fun b hb => ?_
  rw [← hzs] at hb ⊢
  simp only [isB_i, isK_i, isP_i, isTup_i, isInt_i, isSl_i, isPtr_i, isCs_i, isStr_i, isFn_i, isIf_i, rd_i, br_t, br_f, orO_s, orO_n, gd_t, bv_add, bv_sub, bv_mul, bv_eql, bv_neq, bv_lss, bv_leq, bv_gtr, bv_geq, bv_quo, bv_rem, bv_shl, bv_shr, bv_seq, bv_sne, bv_ptr, bv_if, bv_map, bv_nf, bv_bool, bv_sl, bv_fn, uv_not, uv_neg, eqV, nilV, nc_ptr, nc_fn, nc_if, Option.map_some, toN, Nat.mul_one, implies_true, true_and, and_true, and_self]
  refine (enc_run hat hok).mono ?_
  rintro _ w14 ⟨e, ed, rfl, hbe, -, hf14⟩
  simp only [isB_i, isK_i, isP_i, isTup_i, isInt_i, isSl_i, isPtr_i, isCs_i, isStr_i, isFn_i, isIf_i, rd_i, br_t, br_f, orO_s, orO_n, gd_t, bv_add, bv_sub, bv_mul, bv_eql, bv_neq, bv_lss, bv_leq, bv_gtr, bv_geq, bv_quo, bv_rem, bv_shl, bv_shr, bv_seq, bv_sne, bv_ptr, bv_if, bv_map, bv_nf, bv_bool, bv_sl, bv_fn, uv_not, uv_neg, eqV, nilV, nc_ptr, nc_fn, nc_if, Option.map_some, toN, Nat.mul_one, implies_true, true_and, and_true, and_self, List.getElem?_cons_zero, List.getElem?_cons_succ]
  have hF14 := hF4.trans hf14
  have hb14 := hb.keep hf14 fun _ _ => id
  have hat14 := hat.fm hf14
  refine ⟨fun _ w' => Fm none' w14 w', ?_, ?_⟩
  · refine br_dec (fun he => ?_) (fun _ => Fm.refl _ _)
    obtain ⟨h1, h2, h3, h4⟩ := enc_ok hok he
    refine (dec_run rfl hbe (enc_range _) (by rw [h4]; omega)).mono ?_
    have hd : decodeM (encodeM (fewM ms)).1 = (fewM ms, 0) := by rw [h4]; exact dec_enc h1 h2 h3
    rw [hd]
    rintro _ w25 ⟨q25, d25, rfl, hat25, hf25⟩
    simp only [isB_i, isK_i, isP_i, isTup_i, isInt_i, isSl_i, isPtr_i, isCs_i, isStr_i, isFn_i, isIf_i, rd_i, br_t, br_f, orO_s, orO_n, gd_t, bv_add, bv_sub, bv_mul, bv_eql, bv_neq, bv_lss, bv_leq, bv_gtr, bv_geq, bv_quo, bv_rem, bv_shl, bv_shr, bv_seq, bv_sne, bv_ptr, bv_if, bv_map, bv_nf, bv_bool, bv_sl, bv_fn, uv_not, uv_neg, eqV, nilV, nc_ptr, nc_fn, nc_if, Option.map_some, toN, Nat.mul_one, implies_true, true_and, and_true, and_self, List.getElem?_cons_zero, List.getElem?_cons_succ]
    refine br_ndec (fun h => absurd trivial h) (fun _ => ?_)
    refine (same20_c hat25 (hat14.fm hf25) (fun m hm => (hok.ok m hm).bytes) (fun m hm => (hok.ok m hm).bytes) (by show (fewM ms).length ≤ _; omega)).mono ?_
    rintro _ w35 ⟨rfl, hf35⟩
    simp only [decide_true, Bool.not_true, isB_i, isK_i, isP_i, isTup_i, isInt_i, isSl_i, isPtr_i, isCs_i, isStr_i, isFn_i, isIf_i, rd_i, br_t, br_f, orO_s, orO_n, gd_t, bv_add, bv_sub, bv_mul, bv_eql, bv_neq, bv_lss, bv_leq, bv_gtr, bv_geq, bv_quo, bv_rem, bv_shl, bv_shr, bv_seq, bv_sne, bv_ptr, bv_if, bv_map, bv_nf, bv_bool, bv_sl, bv_fn, uv_not, uv_neg, eqV, nilV, nc_ptr, nc_fn, nc_if, Option.map_some, toN, Nat.mul_one, implies_true, true_and, and_true, and_self]
    exact br_dec (fun h => by rw [h4] at h; omega) (fun _ => hf25.trans hf35)
  · rintro - w39 (hf39 : Fm none' w14 w39)
    have hb0 := hb14.keep hf39 fun _ _ => id
    refine (dec_run rfl hb0 hzr (by omega)).mono ?_
    rintro _ w37 ⟨q37, d37, rfl, hat37, hf37⟩
    simp only [isB_i, isK_i, isP_i, isTup_i, isInt_i, isSl_i, isPtr_i, isCs_i, isStr_i, isFn_i, isIf_i, rd_i, br_t, br_f, orO_s, orO_n, gd_t, bv_add, bv_sub, bv_mul, bv_eql, bv_neq, bv_lss, bv_leq, bv_gtr, bv_geq, bv_quo, bv_rem, bv_shl, bv_shr, bv_seq, bv_sne, bv_ptr, bv_if, bv_map, bv_nf, bv_bool, bv_sl, bv_fn, uv_not, uv_neg, eqV, nilV, nc_ptr, nc_fn, nc_if, Option.map_some, toN, Nat.mul_one, implies_true, true_and, and_true, and_self, List.getElem?_cons_zero, List.getElem?_cons_succ]
    have hF37 := (hF14.trans hf39).trans hf37
    refine br_ndec (fun he => ?_) (fun he => ?_)
    · rcases dec_errs zs with h | ⟨h1, h2⟩
      · exact absurd h he
      · rw [h1]
        refine br_dec (fun _ => ?_) (fun h => absurd rfl h)
        refine br_dec (fun _ => hF37) (fun h => ⟨?_, hF37⟩)
        rw [decide_eq_true (h2.resolve_left h)]
    · have hd : decodeM zs = ((decodeM zs).1, 0) := by rw [← he]
      obtain ⟨h1, h2, h3, h4, -⟩ := enc_dec hzr hd
      refine (enc_run hat37 (rok_msok h1 h2)).mono ?_
      have henc : encodeM (decodeM zs).1 = (zs, 0) := by
        rw [enc_of h1, if_neg (by rw [h4]; omega), h4]
      rw [henc]
      rintro _ w47 ⟨e47, d47, rfl, hb47, -, hf47⟩
      simp only [decide_true, isB_i, isK_i, isP_i, isTup_i, isInt_i, isSl_i, isPtr_i, isCs_i, isStr_i, isFn_i, isIf_i, rd_i, br_t, br_f, orO_s, orO_n, gd_t, bv_add, bv_sub, bv_mul, bv_eql, bv_neq, bv_lss, bv_leq, bv_gtr, bv_geq, bv_quo, bv_rem, bv_shl, bv_shr, bv_seq, bv_sne, bv_ptr, bv_if, bv_map, bv_nf, bv_bool, bv_sl, bv_fn, uv_not, uv_neg, eqV, nilV, nc_ptr, nc_fn, nc_if, Option.map_some, toN, Nat.mul_one, implies_true, true_and, and_true, and_self, List.getElem?_cons_zero, List.getElem?_cons_succ]
      refine conv_run rfl hb47 ?_
      simp only [isB_i, isK_i, isP_i, isTup_i, isInt_i, isSl_i, isPtr_i, isCs_i, isStr_i, isFn_i, isIf_i, rd_i, br_t, br_f, orO_s, orO_n, gd_t, bv_add, bv_sub, bv_mul, bv_eql, bv_neq, bv_lss, bv_leq, bv_gtr, bv_geq, bv_quo, bv_rem, bv_shl, bv_shr, bv_seq, bv_sne, bv_ptr, bv_if, bv_map, bv_nf, bv_bool, bv_sl, bv_fn, uv_not, uv_neg, eqV, nilV, nc_ptr, nc_fn, nc_if, Option.map_some, toN, Nat.mul_one, implies_true, true_and, and_true, and_self]
      refine conv_run rfl (hb0.keep (hf37.trans hf47) fun _ _ => id) ?_
      simp only [decide_true, isB_i, isK_i, isP_i, isTup_i, isInt_i, isSl_i, isPtr_i, isCs_i, isStr_i, isFn_i, isIf_i, rd_i, br_t, br_f, orO_s, orO_n, gd_t, bv_add, bv_sub, bv_mul, bv_eql, bv_neq, bv_lss, bv_leq, bv_gtr, bv_geq, bv_quo, bv_rem, bv_shl, bv_shr, bv_seq, bv_sne, bv_ptr, bv_if, bv_map, bv_nf, bv_bool, bv_sl, bv_fn, uv_not, uv_neg, eqV, nilV, nc_ptr, nc_fn, nc_if, Option.map_some, toN, Nat.mul_one, implies_true, true_and, and_true, and_self]
      refine ⟨?_, hF37.trans hf47⟩
      rw [decide_eq_true (by omega)]
end Go.Proofs.Ytfekkdmnboccfaa
