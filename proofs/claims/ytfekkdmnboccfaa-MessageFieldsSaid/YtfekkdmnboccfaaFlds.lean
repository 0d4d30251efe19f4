/- message's law 7: a kind has just its fields.  Conditions: the message may be read. -/
import Derived.Test.YtfekkdmnboccfaaFldL
import Derived.Test.YtfekkdmnboccfaaSiz
import Derived.Test.YtfekkdmnboccfaaC9
namespace Go.Proofs.Ytfekkdmnboccfaa
set_option linter.unusedSimpArgs false
set_option linter.unusedVariables false
open Go Go.RowKit VC
variable {w : World}
abbrev lettersS : ByteArray := { data := #[83, 67, 112, 73, 100, 115, 121, 86, 87, 84, 116, 66] }
theorem lettersS_eq : lettersS = strOfNums letters := by decide +kernel
theorem letters_r : ∀ y ∈ letters, 0 ≤ y ∧ y < 256 := by decide
theorem hasL_r : ∀ l ∈ hasL, ∀ y ∈ l, 0 ≤ y ∧ y < 256 := by decide
def hasS : List ByteArray := hasL.map strOfNums
theorem cc_ne {c d : Int} (h : c ≠ d) : decide (c = d) = false := decide_eq_false h
/-- The slot that holds what the written message may be; the message. -/
def J46 (w : World) (X : Nat) (c n : Int) (m : Msg) (v : Value) (w' : World) : Prop :=
  v = .bool (mayL c n (setL c n m)) ∧ ∃ q cq, w'.heap[X]? = some (.cells (msgC (setL c n m) q cq).toArray 40 (0, 0)) ∧ BytesAt w' q (setL c n m).bytes ∧ Fm none' w w'
theorem J46.of {w w0 w' : World} {X : Nat} {c n : Int} {m x : Msg} {q : Option Addr} {cq : Nat} {v : Value} {t : Bool} (hw : Fm none' w w0) (hX : w.heap.size ≤ X) (hf : Fm (fun i => i = X) w0 w') (hs : setL c n m = x) (hb : x.bytes = m.bytes) (hy : BytesAt w0 q m.bytes) (hq : ∀ ad, q = some ad → m.bytes ≠ [] → ad.block ≠ X)
    (hh : w'.heap[X]? = some (.cells (msgC x q cq).toArray 40 (0, 0))) (hv : v = .bool t) (ht : t = mayL c n x) : J46 w X c n m v w' := by
  subst hs hv ht
  exact ⟨rfl, q, cq, hh, by rw [hb]; exact hy.keepN hf hq, hw.trans' hf (by rintro i hi rfl; omega)⟩
set_option maxRecDepth 20000 in
set_option maxHeartbeats 8000000 in
theorem fields_c {m : Msg} {q : Option Addr} {c' : Nat} {b n : Int} (hm : Mok m) (hsz : m.bytes.length ≤ 140737488351232) (hby : BytesAt w q m.bytes) (hn : I64 n) :
    callV Try.prog 7 [.agg (msgC m q c').toArray, .int .i64 b, .int .i64 n] w fun v w' => v = .bool true ∧ Fm none' w w' := by
  unfold msgC
  apply vc7
  refine allocC_of fun w1 hb1 hs1 hf1 => ?_
  change w1.heap[w.heap.size]? = some (.cells (msgC m q c').toArray 40 (0, 0)) at hb1
  obtain ⟨B, hB⟩ : ∃ B, B = w.heap.size := ⟨_, rfl⟩
  rw [← hB] at hb1 ⊢
  refine shown12_c.mono ?_
  rintro _ w3 ⟨rfl, hf3⟩
  simp only [isB_i, isK_i, isP_i, isTup_i, isInt_i, isSl_i, isPtr_i, isCs_i, isStr_i, isFn_i, isIf_i, rd_i, br_t, br_f, orO_s, orO_n, gd_t, bv_add, bv_sub, bv_mul, bv_eql, bv_neq, bv_lss, bv_leq, bv_gtr, bv_geq, bv_quo, bv_rem, bv_shl, bv_shr, bv_seq, bv_sne, bv_ptr, bv_if, bv_map, bv_nf, bv_bool, bv_sl, bv_fn, uv_not, uv_neg, eqV, nilV, nc_ptr, nc_fn, nc_if, Option.map_some, toN, Nat.mul_one, implies_true, true_and, and_true, and_self]
  have hb3 := hf3.keep hb1 id
  refine rd_of (v := msgC m q c') (cells_all hb3 rfl) ?_
  have hF3 := hf1.trans hf3
  have hby3 := hby.keep hF3 fun _ _ => id
  refine (right16_c hm hby3 hby3.lt hsz).mono ?_
  rintro _ w7 ⟨rfl, hf7⟩
  simp only [isB_i, isK_i, isP_i, isTup_i, isInt_i, isSl_i, isPtr_i, isCs_i, isStr_i, isFn_i, isIf_i, rd_i, br_t, br_f, orO_s, orO_n, gd_t, bv_add, bv_sub, bv_mul, bv_eql, bv_neq, bv_lss, bv_leq, bv_gtr, bv_geq, bv_quo, bv_rem, bv_shl, bv_shr, bv_seq, bv_sne, bv_ptr, bv_if, bv_map, bv_nf, bv_bool, bv_sl, bv_fn, uv_not, uv_neg, eqV, nilV, nc_ptr, nc_fn, nc_if, Option.map_some, toN, Nat.mul_one, implies_true, true_and, and_true, and_self]
  have hF7 := hF3.trans hf7
  refine br_ndec' (fun _ => hF7) (fun hr => ?_)
  have hrok := rok_of hm (by omega) hr
  have hk := known_iff.1 hrok.known
  have hb7 := hf7.keep hb3 id
  have hby7 := hby3.keep hf7 fun _ _ => id
  refine build_L (xs := hasS.map Value.string) (by rw [row49]) row9 rfl (by intro x hx; simp at hx; obtain ⟨a, _, rfl⟩ := hx; rfl) rfl (by omega) (by omega) (by rfl) fun w10 hb10 hs10 hf10 => ?_
  simp only [isB_i, isK_i, isP_i, isTup_i, isInt_i, isSl_i, isPtr_i, isCs_i, isStr_i, isFn_i, isIf_i, rd_i, br_t, br_f, orO_s, orO_n, gd_t, bv_add, bv_sub, bv_mul, bv_eql, bv_neq, bv_lss, bv_leq, bv_gtr, bv_geq, bv_quo, bv_rem, bv_shl, bv_shr, bv_seq, bv_sne, bv_ptr, bv_if, bv_map, bv_nf, bv_bool, bv_sl, bv_fn, uv_not, uv_neg, eqV, nilV, nc_ptr, nc_fn, nc_if, Option.map_some, toN, Nat.mul_one, implies_true, true_and, and_true, and_self]
  have hbm := hf10.keep hb7 id
  refine rd_of (v := .int .i64 m.kind) (cellOf hbm rfl) ?_
  simp only [isB_i, isK_i, isP_i, isTup_i, isInt_i, isSl_i, isPtr_i, isCs_i, isStr_i, isFn_i, isIf_i, rd_i, br_t, br_f, orO_s, orO_n, gd_t, bv_add, bv_sub, bv_mul, bv_eql, bv_neq, bv_lss, bv_leq, bv_gtr, bv_geq, bv_quo, bv_rem, bv_shl, bv_shr, bv_seq, bv_sne, bv_ptr, bv_if, bv_map, bv_nf, bv_bool, bv_sl, bv_fn, uv_not, uv_neg, eqV, nilV, nc_ptr, nc_fn, nc_if, Option.map_some, toN, Nat.mul_one, implies_true, true_and, and_true, and_self]
  obtain ⟨kn, hkn⟩ : ∃ kn : Nat, m.kind = kn := ⟨m.kind.toNat, by omega⟩
  have hget : ∃ ks, hasL[kn]? = some ks := ⟨hasL[kn]'(show kn < hasL.length by show kn < 10; omega), List.getElem?_eq_getElem _⟩
  obtain ⟨ks, hks⟩ := hget
  have hksr : ∀ y ∈ ks, 0 ≤ y ∧ y < 256 := hasL_r ks (List.mem_of_getElem? hks)
  have hkl : ks.length ≤ 3 := by
    have : ∀ l ∈ hasL, l.length ≤ 3 := by decide
    exact this ks (List.mem_of_getElem? hks)
  rw [hkn, toN, addr_add, Nat.zero_add]
  refine ⟨by omega, rd_of (v := .string (strOfNums ks)) (cellOf hb10 (by rw [List.getElem?_toArray, List.getElem?_map]; unfold hasS; rw [List.getElem?_map, hks]; rfl)) ?_⟩
  simp only [isB_i, isK_i, isP_i, isTup_i, isInt_i, isSl_i, isPtr_i, isCs_i, isStr_i, isFn_i, isIf_i, rd_i, br_t, br_f, orO_s, orO_n, gd_t, bv_add, bv_sub, bv_mul, bv_eql, bv_neq, bv_lss, bv_leq, bv_gtr, bv_geq, bv_quo, bv_rem, bv_shl, bv_shr, bv_seq, bv_sne, bv_ptr, bv_if, bv_map, bv_nf, bv_bool, bv_sl, bv_fn, uv_not, uv_neg, eqV, nilV, nc_ptr, nc_fn, nc_if, Option.map_some, toN, Nat.mul_one, implies_true, true_and, and_true, and_self]
  refine rd_of (v := msgC m q c') (cells_all hbm rfl) ?_
  refine allocC_of fun w21 hb21 hs21 hf21 => ?_
  refine rd_of (v := ()) rfl ?_
  refine stC_all hb21 rfl msgC_one fun w22 hb22 hf22 => ?_
  obtain ⟨X, hX⟩ : ∃ X, X = w10.heap.size := ⟨_, rfl⟩
  rw [← hX] at hb22 hf22 ⊢
  have hF10 := hF7.trans hf10
  have hs10' := hF10.size
  have h1022 : Fm none' w10 w22 := hf21.trans' hf22 (by rintro i hi rfl; omega)
  have hF22 : Fm none' w w22 := hF10.trans h1022
  have hXw : w.heap.size ≤ X := by omega
  have hby22 : BytesAt w22 q m.bytes := hby.keep hF22 fun _ _ => id
  have hqX : ∀ ad, q = some ad → m.bytes ≠ [] → ad.block ≠ X := fun ad e hne => by have := hby.lt ad e hne; omega
  -- the letter
  obtain ⟨f, hf, hf12⟩ : ∃ f : Nat, Int.tmod (andI .i64 b 65535) 12 = f ∧ f < 12 := by
    have h1 := andI_le b 65535 (by omega)
    have h2 : (((65535 : Nat) : Int)) = 65535 := rfl
    rw [h2] at h1
    refine ⟨(Int.tmod (andI .i64 b 65535) 12).toNat, ?_, ?_⟩
    all_goals rw [Int.tmod_eq_emod_of_nonneg h1.1]; omega
  rw [hf]
  obtain ⟨c, hc⟩ : ∃ c, letters[f]? = some c := ⟨letters[f]'(show f < letters.length from hf12), List.getElem?_eq_getElem _⟩
  have hcm : c ∈ letters := List.mem_of_getElem? hc
  have hL : ∀ {w : World} {K : Value → World → Prop}, K (.int .u8 c) w → runs Try.prog (Instr.index 9 (.string lettersS) (.int .i64 (f : Int))) w K := by
    intro w K k
    rw [lettersS_eq]
    exact index_str (by rw [row9]) letters_r hc k
  have hH : ∀ {w : World} {K : Value → World → Prop} {j : Nat} {y : Int}, ks[j]? = some y → K (.int .u8 y) w → runs Try.prog (Instr.index 9 (.string (strOfNums ks)) (.int .i64 (j : Int))) w K := by
    intro w K j y hj k
    exact index_str (by rw [row9]) hksr hj k
  have hlaw := fields_law hrok hn hcm
  rw [hkn] at hlaw
  have hgd : hasL.getD ((kn : Int)).toNat [] = ks := by
    rw [Int.toNat_natCast, List.getD_eq_getElem?_getD, hks]; rfl
  rw [hgd] at hlaw
  have hsl := set_len (n := n) hrok.len c
  have hsm := set_mok hm hn c
  refine ⟨fun u w' => J46 w10 X c n m (u 12) w', ?_, ?_⟩
  · refine hL ?_
    simp only [isB_i, isK_i, isP_i, isTup_i, isInt_i, isSl_i, isPtr_i, isCs_i, isStr_i, isFn_i, isIf_i, rd_i, br_t, br_f, orO_s, orO_n, gd_t, bv_add, bv_sub, bv_mul, bv_eql, bv_neq, bv_lss, bv_leq, bv_gtr, bv_geq, bv_quo, bv_rem, bv_shl, bv_shr, bv_seq, bv_sne, bv_ptr, bv_if, bv_map, bv_nf, bv_bool, bv_sl, bv_fn, uv_not, uv_neg, eqV, nilV, nc_ptr, nc_fn, nc_if, Option.map_some, toN, Nat.mul_one, implies_true, true_and, and_true, and_self]
    clear hlaw hL hsm hsl
    simp only [letters, List.mem_cons, List.not_mem_nil, or_false] at hcm
    have hr22 := Fm.refl none' w22
    have hX22 : w22.heap.size ≥ w22.heap.size := Nat.le_refl _
    rcases hcm with rfl | rfl | rfl | rfl | rfl | rfl | rfl | rfl | rfl | rfl | rfl | rfl
    · refine br_dec (fun _ => ?_) (fun h => absurd rfl h)
      refine stC_one hb22 (by simp [msgC]) rfl fun w27 hb27 hf27 => ?_
      change w27.heap[X]? = some (.cells (msgC { m with seq := IntKind.u16.wrap n } q c').toArray 40 (0, 0)) at hb27
      refine rd_of (v := .int .u16 (IntKind.u16.wrap n)) (cellOf hb27 rfl) ?_
      simp only [isB_i, isK_i, isP_i, isTup_i, isInt_i, isSl_i, isPtr_i, isCs_i, isStr_i, isFn_i, isIf_i, rd_i, br_t, br_f, orO_s, orO_n, gd_t, bv_add, bv_sub, bv_mul, bv_eql, bv_neq, bv_lss, bv_leq, bv_gtr, bv_geq, bv_quo, bv_rem, bv_shl, bv_shr, bv_seq, bv_sne, bv_ptr, bv_if, bv_map, bv_nf, bv_bool, bv_sl, bv_fn, uv_not, uv_neg, eqV, nilV, nc_ptr, nc_fn, nc_if, Option.map_some, toN, Nat.mul_one, implies_true, true_and, and_true, and_self]
      exact J46.of h1022 (by omega) hf27 rfl rfl hby22 hqX hb27 rfl rfl
    · refine br_dec (fun h => absurd h (by decide)) (fun _ => ?_)
      refine br_dec (fun _ => ?_) (fun h => absurd rfl h)
      refine stC_one hb22 (by simp [msgC]) rfl fun w27 hb27 hf27 => ?_
      change w27.heap[X]? = some (.cells (msgC { m with ct := n } q c').toArray 40 (0, 0)) at hb27
      refine rd_of (v := ([.int .u16 m.cq, .int .u8 m.cb, .int .i8 m.cdx, .int .i8 m.cdy, .int .i64 n] : List Value)) (cells_row hb27 (by simp [msgC])) ?_
      rw [eq5]
      simp only [isB_i, isK_i, isP_i, isTup_i, isInt_i, isSl_i, isPtr_i, isCs_i, isStr_i, isFn_i, isIf_i, rd_i, br_t, br_f, orO_s, orO_n, gd_t, bv_add, bv_sub, bv_mul, bv_eql, bv_neq, bv_lss, bv_leq, bv_gtr, bv_geq, bv_quo, bv_rem, bv_shl, bv_shr, bv_seq, bv_sne, bv_ptr, bv_if, bv_map, bv_nf, bv_bool, bv_sl, bv_fn, uv_not, uv_neg, eqV, nilV, nc_ptr, nc_fn, nc_if, Option.map_some, toN, Nat.mul_one, implies_true, true_and, and_true, and_self]
      exact J46.of h1022 (by omega) hf27 rfl rfl hby22 hqX hb27 rfl rfl
    · refine br_dec (fun h => absurd h (by decide)) (fun _ => ?_)
      refine br_dec (fun h => absurd h (by decide)) (fun _ => ?_)
      refine br_dec (fun _ => ?_) (fun h => absurd rfl h)
      refine stC_one hb22 (by simp [msgC]) rfl fun w27 hb27 hf27 => ?_
      change w27.heap[X]? = some (.cells (msgC { m with prov := IntKind.u16.wrap n } q c').toArray 40 (0, 0)) at hb27
      refine rd_of (v := .int .u16 (IntKind.u16.wrap n)) (cellOf hb27 rfl) ?_
      simp only [isB_i, isK_i, isP_i, isTup_i, isInt_i, isSl_i, isPtr_i, isCs_i, isStr_i, isFn_i, isIf_i, rd_i, br_t, br_f, orO_s, orO_n, gd_t, bv_add, bv_sub, bv_mul, bv_eql, bv_neq, bv_lss, bv_leq, bv_gtr, bv_geq, bv_quo, bv_rem, bv_shl, bv_shr, bv_seq, bv_sne, bv_ptr, bv_if, bv_map, bv_nf, bv_bool, bv_sl, bv_fn, uv_not, uv_neg, eqV, nilV, nc_ptr, nc_fn, nc_if, Option.map_some, toN, Nat.mul_one, implies_true, true_and, and_true, and_self]
      exact J46.of h1022 (by omega) hf27 rfl rfl hby22 hqX hb27 rfl rfl
    · refine br_dec (fun h => absurd h (by decide)) (fun _ => ?_)
      refine br_dec (fun h => absurd h (by decide)) (fun _ => ?_)
      refine br_dec (fun h => absurd h (by decide)) (fun _ => ?_)
      refine br_dec (fun _ => ?_) (fun h => absurd rfl h)
      refine stC_one hb22 (by simp [msgC]) rfl fun w27 hb27 hf27 => ?_
      change w27.heap[X]? = some (.cells (msgC { m with id := n } q c').toArray 40 (0, 0)) at hb27
      exact J46.of h1022 (by omega) hf27 rfl rfl hby22 hqX hb27 rfl rfl
    · refine br_dec (fun h => absurd h (by decide)) (fun _ => ?_)
      refine br_dec (fun h => absurd h (by decide)) (fun _ => ?_)
      refine br_dec (fun h => absurd h (by decide)) (fun _ => ?_)
      refine br_dec (fun h => absurd h (by decide)) (fun _ => ?_)
      refine br_dec (fun _ => ?_) (fun h => absurd rfl h)
      refine stC_one hb22 (by simp [msgC]) rfl fun w27 hb27 hf27 => ?_
      change w27.heap[X]? = some (.cells (msgC { m with d1 := n } q c').toArray 40 (0, 0)) at hb27
      refine rd_of (v := ([.int .i64 m.d0, .int .i64 n, .int .i64 m.d2] : List Value)) (cells_row hb27 (by simp [msgC])) ?_
      rw [eq3]
      simp only [isB_i, isK_i, isP_i, isTup_i, isInt_i, isSl_i, isPtr_i, isCs_i, isStr_i, isFn_i, isIf_i, rd_i, br_t, br_f, orO_s, orO_n, gd_t, bv_add, bv_sub, bv_mul, bv_eql, bv_neq, bv_lss, bv_leq, bv_gtr, bv_geq, bv_quo, bv_rem, bv_shl, bv_shr, bv_seq, bv_sne, bv_ptr, bv_if, bv_map, bv_nf, bv_bool, bv_sl, bv_fn, uv_not, uv_neg, eqV, nilV, nc_ptr, nc_fn, nc_if, Option.map_some, toN, Nat.mul_one, implies_true, true_and, and_true, and_self]
      exact J46.of h1022 (by omega) hf27 rfl rfl hby22 hqX hb27 rfl rfl
    · refine br_dec (fun h => absurd h (by decide)) (fun _ => ?_)
      refine br_dec (fun h => absurd h (by decide)) (fun _ => ?_)
      refine br_dec (fun h => absurd h (by decide)) (fun _ => ?_)
      refine br_dec (fun h => absurd h (by decide)) (fun _ => ?_)
      refine br_dec (fun h => absurd h (by decide)) (fun _ => ?_)
      refine br_dec (fun _ => ?_) (fun h => absurd rfl h)
      refine stC_one hb22 (by simp [msgC]) rfl fun w27 hb27 hf27 => ?_
      change w27.heap[X]? = some (.cells (msgC { m with shot := n } q c').toArray 40 (0, 0)) at hb27
      exact J46.of h1022 (by omega) hf27 rfl rfl hby22 hqX hb27 rfl rfl
    · refine br_dec (fun h => absurd h (by decide)) (fun _ => ?_)
      refine br_dec (fun h => absurd h (by decide)) (fun _ => ?_)
      refine br_dec (fun h => absurd h (by decide)) (fun _ => ?_)
      refine br_dec (fun h => absurd h (by decide)) (fun _ => ?_)
      refine br_dec (fun h => absurd h (by decide)) (fun _ => ?_)
      refine br_dec (fun h => absurd h (by decide)) (fun _ => ?_)
      refine br_dec (fun _ => ?_) (fun h => absurd rfl h)
      refine stC_one hb22 (by simp [msgC]) rfl fun w27 hb27 hf27 => ?_
      change w27.heap[X]? = some (.cells (msgC { m with why := n } q c').toArray 40 (0, 0)) at hb27
      exact J46.of h1022 (by omega) hf27 rfl rfl hby22 hqX hb27 rfl rfl
    · refine br_dec (fun h => absurd h (by decide)) (fun _ => ?_)
      refine br_dec (fun h => absurd h (by decide)) (fun _ => ?_)
      refine br_dec (fun h => absurd h (by decide)) (fun _ => ?_)
      refine br_dec (fun h => absurd h (by decide)) (fun _ => ?_)
      refine br_dec (fun h => absurd h (by decide)) (fun _ => ?_)
      refine br_dec (fun h => absurd h (by decide)) (fun _ => ?_)
      refine br_dec (fun h => absurd h (by decide)) (fun _ => ?_)
      refine br_dec (fun _ => ?_) (fun h => absurd rfl h)
      refine stC_one hb22 (by simp [msgC]) rfl fun w27 hb27 hf27 => ?_
      change w27.heap[X]? = some (.cells (msgC { m with p2 := n } q c').toArray 40 (0, 0)) at hb27
      refine rd_of (v := ([.int .i64 m.p0, .int .i64 m.p1, .int .i64 n] : List Value)) (cells_row hb27 (by simp [msgC])) ?_
      rw [eq3]
      simp only [isB_i, isK_i, isP_i, isTup_i, isInt_i, isSl_i, isPtr_i, isCs_i, isStr_i, isFn_i, isIf_i, rd_i, br_t, br_f, orO_s, orO_n, gd_t, bv_add, bv_sub, bv_mul, bv_eql, bv_neq, bv_lss, bv_leq, bv_gtr, bv_geq, bv_quo, bv_rem, bv_shl, bv_shr, bv_seq, bv_sne, bv_ptr, bv_if, bv_map, bv_nf, bv_bool, bv_sl, bv_fn, uv_not, uv_neg, eqV, nilV, nc_ptr, nc_fn, nc_if, Option.map_some, toN, Nat.mul_one, implies_true, true_and, and_true, and_self]
      exact J46.of h1022 (by omega) hf27 rfl rfl hby22 hqX hb27 rfl rfl
    · refine br_dec (fun h => absurd h (by decide)) (fun _ => ?_)
      refine br_dec (fun h => absurd h (by decide)) (fun _ => ?_)
      refine br_dec (fun h => absurd h (by decide)) (fun _ => ?_)
      refine br_dec (fun h => absurd h (by decide)) (fun _ => ?_)
      refine br_dec (fun h => absurd h (by decide)) (fun _ => ?_)
      refine br_dec (fun h => absurd h (by decide)) (fun _ => ?_)
      refine br_dec (fun h => absurd h (by decide)) (fun _ => ?_)
      refine br_dec (fun h => absurd h (by decide)) (fun _ => ?_)
      refine br_dec (fun _ => ?_) (fun h => absurd rfl h)
      refine stC_one hb22 (by simp [msgC]) rfl fun w27 hb27 hf27 => ?_
      change w27.heap[X]? = some (.cells (msgC { m with v0 := n } q c').toArray 40 (0, 0)) at hb27
      refine rd_of (v := ([.int .i64 n, .int .i64 m.v1, .int .i64 m.v2] : List Value)) (cells_row hb27 (by simp [msgC])) ?_
      rw [eq3]
      simp only [isB_i, isK_i, isP_i, isTup_i, isInt_i, isSl_i, isPtr_i, isCs_i, isStr_i, isFn_i, isIf_i, rd_i, br_t, br_f, orO_s, orO_n, gd_t, bv_add, bv_sub, bv_mul, bv_eql, bv_neq, bv_lss, bv_leq, bv_gtr, bv_geq, bv_quo, bv_rem, bv_shl, bv_shr, bv_seq, bv_sne, bv_ptr, bv_if, bv_map, bv_nf, bv_bool, bv_sl, bv_fn, uv_not, uv_neg, eqV, nilV, nc_ptr, nc_fn, nc_if, Option.map_some, toN, Nat.mul_one, implies_true, true_and, and_true, and_self]
      exact J46.of h1022 (by omega) hf27 rfl rfl hby22 hqX hb27 rfl rfl
    · refine br_dec (fun h => absurd h (by decide)) (fun _ => ?_)
      refine br_dec (fun h => absurd h (by decide)) (fun _ => ?_)
      refine br_dec (fun h => absurd h (by decide)) (fun _ => ?_)
      refine br_dec (fun h => absurd h (by decide)) (fun _ => ?_)
      refine br_dec (fun h => absurd h (by decide)) (fun _ => ?_)
      refine br_dec (fun h => absurd h (by decide)) (fun _ => ?_)
      refine br_dec (fun h => absurd h (by decide)) (fun _ => ?_)
      refine br_dec (fun h => absurd h (by decide)) (fun _ => ?_)
      refine br_dec (fun h => absurd h (by decide)) (fun _ => ?_)
      refine br_dec (fun _ => ?_) (fun h => absurd rfl h)
      refine stC_one hb22 (by simp [msgC]) rfl fun w27 hb27 hf27 => ?_
      change w27.heap[X]? = some (.cells (msgC { m with tick := IntKind.u32.wrap n } q c').toArray 40 (0, 0)) at hb27
      refine rd_of (v := .int .u32 (IntKind.u32.wrap n)) (cellOf hb27 rfl) ?_
      simp only [isB_i, isK_i, isP_i, isTup_i, isInt_i, isSl_i, isPtr_i, isCs_i, isStr_i, isFn_i, isIf_i, rd_i, br_t, br_f, orO_s, orO_n, gd_t, bv_add, bv_sub, bv_mul, bv_eql, bv_neq, bv_lss, bv_leq, bv_gtr, bv_geq, bv_quo, bv_rem, bv_shl, bv_shr, bv_seq, bv_sne, bv_ptr, bv_if, bv_map, bv_nf, bv_bool, bv_sl, bv_fn, uv_not, uv_neg, eqV, nilV, nc_ptr, nc_fn, nc_if, Option.map_some, toN, Nat.mul_one, implies_true, true_and, and_true, and_self]
      exact J46.of h1022 (by omega) hf27 rfl rfl hby22 hqX hb27 rfl rfl
    · refine br_dec (fun h => absurd h (by decide)) (fun _ => ?_)
      refine br_dec (fun h => absurd h (by decide)) (fun _ => ?_)
      refine br_dec (fun h => absurd h (by decide)) (fun _ => ?_)
      refine br_dec (fun h => absurd h (by decide)) (fun _ => ?_)
      refine br_dec (fun h => absurd h (by decide)) (fun _ => ?_)
      refine br_dec (fun h => absurd h (by decide)) (fun _ => ?_)
      refine br_dec (fun h => absurd h (by decide)) (fun _ => ?_)
      refine br_dec (fun h => absurd h (by decide)) (fun _ => ?_)
      refine br_dec (fun h => absurd h (by decide)) (fun _ => ?_)
      refine br_dec (fun h => absurd h (by decide)) (fun _ => ?_)
      refine br_dec (fun _ => ?_) (fun h => absurd rfl h)
      refine stC_one hb22 (by simp [msgC]) rfl fun w27 hb27 hf27 => ?_
      change w27.heap[X]? = some (.cells (msgC { m with bse := IntKind.u32.wrap n } q c').toArray 40 (0, 0)) at hb27
      refine rd_of (v := .int .u32 (IntKind.u32.wrap n)) (cellOf hb27 rfl) ?_
      simp only [isB_i, isK_i, isP_i, isTup_i, isInt_i, isSl_i, isPtr_i, isCs_i, isStr_i, isFn_i, isIf_i, rd_i, br_t, br_f, orO_s, orO_n, gd_t, bv_add, bv_sub, bv_mul, bv_eql, bv_neq, bv_lss, bv_leq, bv_gtr, bv_geq, bv_quo, bv_rem, bv_shl, bv_shr, bv_seq, bv_sne, bv_ptr, bv_if, bv_map, bv_nf, bv_bool, bv_sl, bv_fn, uv_not, uv_neg, eqV, nilV, nc_ptr, nc_fn, nc_if, Option.map_some, toN, Nat.mul_one, implies_true, true_and, and_true, and_self]
      exact J46.of h1022 (by omega) hf27 rfl rfl hby22 hqX hb27 rfl rfl
    · refine br_dec (fun h => absurd h (by decide)) (fun _ => ?_)
      refine br_dec (fun h => absurd h (by decide)) (fun _ => ?_)
      refine br_dec (fun h => absurd h (by decide)) (fun _ => ?_)
      refine br_dec (fun h => absurd h (by decide)) (fun _ => ?_)
      refine br_dec (fun h => absurd h (by decide)) (fun _ => ?_)
      refine br_dec (fun h => absurd h (by decide)) (fun _ => ?_)
      refine br_dec (fun h => absurd h (by decide)) (fun _ => ?_)
      refine br_dec (fun h => absurd h (by decide)) (fun _ => ?_)
      refine br_dec (fun h => absurd h (by decide)) (fun _ => ?_)
      refine br_dec (fun h => absurd h (by decide)) (fun _ => ?_)
      refine br_dec (fun h => absurd h (by decide)) (fun _ => ?_)
      refine br_dec (fun _ => ?_) (fun h => absurd rfl h)
      obtain ⟨a, ha, hle⟩ := and1023 n
      rw [ha]
      refine make_b (base := w22.heap.size) (by rw [row25]) row5 (by omega) (by simp only [maxLen]; omega) (Nat.le_refl _) fun w59 ho59 hf59 => ?_
      simp only [isB_i, isK_i, isP_i, isTup_i, isInt_i, isSl_i, isPtr_i, isCs_i, isStr_i, isFn_i, isIf_i, rd_i, br_t, br_f, orO_s, orO_n, gd_t, bv_add, bv_sub, bv_mul, bv_eql, bv_neq, bv_lss, bv_leq, bv_gtr, bv_geq, bv_quo, bv_rem, bv_shl, bv_shr, bv_seq, bv_sne, bv_ptr, bv_if, bv_map, bv_nf, bv_bool, bv_sl, bv_fn, uv_not, uv_neg, eqV, nilV, nc_ptr, nc_fn, nc_if, Option.map_some, toN, Nat.mul_one, implies_true, true_and, and_true, and_self]
      refine stC_one (hf59.keep hb22 id) (by simp [msgC]) rfl fun w63 hb63 hf63 => ?_
      refine ⟨?_, some ⟨w22.heap.size, 0, none⟩, a, ?_, ?_, ?_⟩
      · show Value.bool _ = Value.bool _
        congr 1
        simp [mayL, ha]
      · rw [hb63]
        have e : (setL 66 n m).bytes.length = a := by simp [setL, ha]
        simp only [msgC, e]
        rfl
      · have e : (setL 66 n m).bytes = List.replicate a 0 := by simp [setL, ha]
        rw [e]
        have h5 : BytesAt w59 (some ⟨w22.heap.size, 0, none⟩) (List.replicate a (0 : Int)) := BytesAt.of_own (c := a) (n := a) ho59
        exact h5.keepN hf63 fun ad e' _ => by cases e'; show w22.heap.size ≠ X; have := lt_of_blk hb22; omega
      · exact (h1022.trans hf59).trans' hf63 (by rintro i hi rfl; omega)
  · intro u w66 hJ
    change J46 w10 X c n m (u 12) w66 at hJ
    obtain ⟨h12, q2, c2, hx66, hby66, hF66⟩ := hJ
    have hFw : Fm none' w w66 := hF10.trans hF66
    -- Right of the other message
    have right : ∀ (w' : World), Fm none' w66 w' → rd (cellsAt w' ⟨X, 0, none⟩ 23) fun l => callV Try.prog 16 [.agg l.toArray] w' fun v w'' => v = .bool (rightM (setL c n m)) ∧ Fm none' w w'' := by
      intro w' hf'
      refine rd_of (v := msgC (setL c n m) q2 c2) (cells_all (hf'.keep hx66 id) rfl) ?_
      refine (right16_c hsm (hby66.keep hf' fun _ _ => id) (hby66.keep hf' fun _ _ => id).lt (by omega)).mono ?_
      rintro _ w'' ⟨rfl, hf''⟩
      exact ⟨rfl, (hFw.trans hf').trans hf''⟩
    refine ⟨fun u' w' => u' 13 = .bool (decide (c ∈ ks)) ∧ Fm none' w66 w', ?_, ?_⟩
    · refine ⟨fun u' w' => ∃ j : Nat, j ≤ ks.length ∧ u' 13 = .bool (decide (c ∈ ks.take j)) ∧ u' 14 = .int .i64 j ∧ Fm none' w66 w', fun u' _ => ks.length - (intOf (u' 14)).toNat, ⟨0, by omega, by simp [alist], rfl, Fm.refl _ _⟩, ?_⟩
      rintro u71 w72 ⟨j, hj, h13, h14, hF72⟩
      change u71 13 = _ at h13
      change u71 14 = _ at h14
      simp only [h13, h14, isB_i, isK_i, isP_i, isTup_i, isInt_i, isSl_i, isPtr_i, isCs_i, isStr_i, isFn_i, isIf_i, rd_i, br_t, br_f, orO_s, orO_n, gd_t, bv_add, bv_sub, bv_mul, bv_eql, bv_neq, bv_lss, bv_leq, bv_gtr, bv_geq, bv_quo, bv_rem, bv_shl, bv_shr, bv_seq, bv_sne, bv_ptr, bv_if, bv_map, bv_nf, bv_bool, bv_sl, bv_fn, uv_not, uv_neg, eqV, nilV, nc_ptr, nc_fn, nc_if, Option.map_some, toN, Nat.mul_one, implies_true, true_and, and_true, and_self, strOfNums_size]
      refine br_dec (fun hjl => ?_) (fun hjl => ?_)
      · obtain ⟨y, hy⟩ : ∃ y, ks[j]? = some y := ⟨ks[j]'(by omega), by simp⟩
        have htk : ks.take (j + 1) = ks.take j ++ [y] := by rw [List.take_add_one, hy]; rfl
        refine ⟨fun _ => True, trivial, ?_⟩
        simp only [isB_i, isK_i, isP_i, isTup_i, isInt_i, isSl_i, isPtr_i, isCs_i, isStr_i, isFn_i, isIf_i, rd_i, br_t, br_f, orO_s, orO_n, gd_t, bv_add, bv_sub, bv_mul, bv_eql, bv_neq, bv_lss, bv_leq, bv_gtr, bv_geq, bv_quo, bv_rem, bv_shl, bv_shr, bv_seq, bv_sne, bv_ptr, bv_if, bv_map, bv_nf, bv_bool, bv_sl, bv_fn, uv_not, uv_neg, eqV, nilV, nc_ptr, nc_fn, nc_if, Option.map_some, toN, Nat.mul_one, implies_true, true_and, and_true, and_self]
        refine br_dec (fun hin => ?_) (fun hin => ?_)
        · rw [w64 (by omega)]
          refine ⟨⟨j + 1, by omega, ?_, rfl, hF72.trans (Fm.drew w72)⟩, by show ks.length - ((j : Int) + 1).toNat < ks.length - (j : Int).toNat; omega⟩
          show Value.bool true = _
          rw [decide_eq_true (by rw [htk]; exact List.mem_append_left _ hin)]
        · refine hH hy ?_
          simp only [isB_i, isK_i, isP_i, isTup_i, isInt_i, isSl_i, isPtr_i, isCs_i, isStr_i, isFn_i, isIf_i, rd_i, br_t, br_f, orO_s, orO_n, gd_t, bv_add, bv_sub, bv_mul, bv_eql, bv_neq, bv_lss, bv_leq, bv_gtr, bv_geq, bv_quo, bv_rem, bv_shl, bv_shr, bv_seq, bv_sne, bv_ptr, bv_if, bv_map, bv_nf, bv_bool, bv_sl, bv_fn, uv_not, uv_neg, eqV, nilV, nc_ptr, nc_fn, nc_if, Option.map_some, toN, Nat.mul_one, implies_true, true_and, and_true, and_self]
          refine ⟨fun w' _ => hH hy (by simp), ?_⟩
          refine hL ?_
          simp only [isB_i, isK_i, isP_i, isTup_i, isInt_i, isSl_i, isPtr_i, isCs_i, isStr_i, isFn_i, isIf_i, rd_i, br_t, br_f, orO_s, orO_n, gd_t, bv_add, bv_sub, bv_mul, bv_eql, bv_neq, bv_lss, bv_leq, bv_gtr, bv_geq, bv_quo, bv_rem, bv_shl, bv_shr, bv_seq, bv_sne, bv_ptr, bv_if, bv_map, bv_nf, bv_bool, bv_sl, bv_fn, uv_not, uv_neg, eqV, nilV, nc_ptr, nc_fn, nc_if, Option.map_some, toN, Nat.mul_one, implies_true, true_and, and_true, and_self]
          refine ⟨fun w' _ => hL (by simp), ?_⟩
          rw [w64 (by omega)]
          refine ⟨⟨j + 1, by omega, ?_, rfl, hF72.trans (Fm.drew w72)⟩, by show ks.length - ((j : Int) + 1).toNat < ks.length - (j : Int).toNat; omega⟩
          show Value.bool _ = Value.bool _
          congr 1
          rw [decide_eq_decide, htk, List.mem_append, List.mem_singleton]
          constructor
          · intro e; exact .inr e.symm
          · rintro (h | h)
            · exact absurd h hin
            · exact h.symm
      · refine ⟨?_, hF72⟩
        show Value.bool (decide (c ∈ List.take j ks)) = _
        rw [List.take_of_length_le (by omega)]
    rintro u117 w118 ⟨h13, hF118⟩
    change u117 13 = _ at h13
    simp only [h12, h13, isB_i, isK_i, isP_i, isTup_i, isInt_i, isSl_i, isPtr_i, isCs_i, isStr_i, isFn_i, isIf_i, rd_i, br_t, br_f, orO_s, orO_n, gd_t, bv_add, bv_sub, bv_mul, bv_eql, bv_neq, bv_lss, bv_leq, bv_gtr, bv_geq, bv_quo, bv_rem, bv_shl, bv_shr, bv_seq, bv_sne, bv_ptr, bv_if, bv_map, bv_nf, bv_bool, bv_sl, bv_fn, uv_not, uv_neg, eqV, nilV, nc_ptr, nc_fn, nc_if, Option.map_some, toN, Nat.mul_one, implies_true, true_and, and_true, and_self]
    refine ⟨fun _ w' => c ∈ ks ∧ Fm none' w66 w', ?_, ?_⟩
    · refine br_ndec (fun hin => ?_) (fun hin => ⟨hin, hF118⟩)
      rw [if_neg hin] at hlaw
      have h := right w118 hF118
      obtain ⟨l, hl, h⟩ := rd_ex h
      refine rd_of hl (h.mono ?_)
      rintro _ w124 ⟨rfl, hf124⟩
      simp only [hlaw, decide_true, isB_i, isK_i, isP_i, isTup_i, isInt_i, isSl_i, isPtr_i, isCs_i, isStr_i, isFn_i, isIf_i, rd_i, br_t, br_f, orO_s, orO_n, gd_t, bv_add, bv_sub, bv_mul, bv_eql, bv_neq, bv_lss, bv_leq, bv_gtr, bv_geq, bv_quo, bv_rem, bv_shl, bv_shr, bv_seq, bv_sne, bv_ptr, bv_if, bv_map, bv_nf, bv_bool, bv_sl, bv_fn, uv_not, uv_neg, eqV, nilV, nc_ptr, nc_fn, nc_if, Option.map_some, toN, Nat.mul_one, implies_true, true_and, and_true, and_self]
      exact hf124
    rintro - w129 ⟨hin, hF129⟩
    rw [if_pos hin] at hlaw
    refine ⟨fun u' w' => u' 15 = .bool (okL c n) ∧ Fm none' w66 w', ?_, ?_⟩
    · refine hL ?_
      simp only [isB_i, isK_i, isP_i, isTup_i, isInt_i, isSl_i, isPtr_i, isCs_i, isStr_i, isFn_i, isIf_i, rd_i, br_t, br_f, orO_s, orO_n, gd_t, bv_add, bv_sub, bv_mul, bv_eql, bv_neq, bv_lss, bv_leq, bv_gtr, bv_geq, bv_quo, bv_rem, bv_shl, bv_shr, bv_seq, bv_sne, bv_ptr, bv_if, bv_map, bv_nf, bv_bool, bv_sl, bv_fn, uv_not, uv_neg, eqV, nilV, nc_ptr, nc_fn, nc_if, Option.map_some, toN, Nat.mul_one, implies_true, true_and, and_true, and_self]
      have fin : ∀ {t : Bool}, t = okL c n → alist [(15, .bool t)] 15 = .bool (okL c n) ∧ Fm none' w66 w129 := fun h => ⟨by rw [← h]; rfl, hF129⟩
      clear hlaw hL hsm hsl hin right hx66 hby66
      simp only [letters, List.mem_cons, List.not_mem_nil, or_false] at hcm
      rcases hcm with rfl | rfl | rfl | rfl | rfl | rfl | rfl | rfl | rfl | rfl | rfl | rfl
      · refine br_dec (fun h => absurd h (by decide)) (fun _ => ?_)
        refine br_dec (fun h => absurd h (by decide)) (fun _ => ?_)
        refine br_dec (fun h => absurd h (by decide)) (fun _ => ?_)
        refine br_dec (fun h => absurd h (by decide)) (fun _ => ?_)
        refine br_dec (fun h => absurd h (by decide)) (fun _ => ?_)
        refine br_dec (fun h => absurd h (by decide)) (fun _ => ?_)
        refine br_dec (fun h => absurd h (by decide)) (fun _ => ?_)
        exact fin (by simp [okL])
      · refine br_dec (fun _ => ?_) (fun h => absurd rfl h)
        refine br_dec (fun h => fin ?_) (fun h => fin ?_)
        all_goals simp [okL, h]
      · refine br_dec (fun h => absurd h (by decide)) (fun _ => ?_)
        refine br_dec (fun h => absurd h (by decide)) (fun _ => ?_)
        refine br_dec (fun h => absurd h (by decide)) (fun _ => ?_)
        refine br_dec (fun h => absurd h (by decide)) (fun _ => ?_)
        refine br_dec (fun h => absurd h (by decide)) (fun _ => ?_)
        refine br_dec (fun h => absurd h (by decide)) (fun _ => ?_)
        refine br_dec (fun h => absurd h (by decide)) (fun _ => ?_)
        exact fin (by simp [okL])
      · refine br_dec (fun h => absurd h (by decide)) (fun _ => ?_)
        refine br_dec (fun _ => ?_) (fun h => absurd rfl h)
        refine br_dec (fun h => fin ?_) (fun h => fin ?_)
        all_goals simp [okL, h]
      · refine br_dec (fun h => absurd h (by decide)) (fun _ => ?_)
        refine br_dec (fun h => absurd h (by decide)) (fun _ => ?_)
        refine br_dec (fun _ => ?_) (fun h => absurd rfl h)
        refine br_dec (fun h => fin ?_) (fun h => fin ?_)
        all_goals simp [okL, h]
      · refine br_dec (fun h => absurd h (by decide)) (fun _ => ?_)
        refine br_dec (fun h => absurd h (by decide)) (fun _ => ?_)
        refine br_dec (fun h => absurd h (by decide)) (fun _ => ?_)
        refine br_dec (fun _ => ?_) (fun h => absurd rfl h)
        refine br_dec (fun h => fin ?_) (fun h => fin ?_)
        all_goals simp [okL, h]
      · refine br_dec (fun h => absurd h (by decide)) (fun _ => ?_)
        refine br_dec (fun h => absurd h (by decide)) (fun _ => ?_)
        refine br_dec (fun h => absurd h (by decide)) (fun _ => ?_)
        refine br_dec (fun h => absurd h (by decide)) (fun _ => ?_)
        refine br_dec (fun _ => ?_) (fun h => absurd rfl h)
        refine br_dec (fun h => fin ?_) (fun h => fin ?_)
        all_goals simp [okL, h]
      · refine br_dec (fun h => absurd h (by decide)) (fun _ => ?_)
        refine br_dec (fun h => absurd h (by decide)) (fun _ => ?_)
        refine br_dec (fun h => absurd h (by decide)) (fun _ => ?_)
        refine br_dec (fun h => absurd h (by decide)) (fun _ => ?_)
        refine br_dec (fun h => absurd h (by decide)) (fun _ => ?_)
        refine br_dec (fun _ => ?_) (fun h => absurd rfl h)
        refine br_dec (fun h => fin ?_) (fun h => fin ?_)
        all_goals simp [okL, h]
      · refine br_dec (fun h => absurd h (by decide)) (fun _ => ?_)
        refine br_dec (fun h => absurd h (by decide)) (fun _ => ?_)
        refine br_dec (fun h => absurd h (by decide)) (fun _ => ?_)
        refine br_dec (fun h => absurd h (by decide)) (fun _ => ?_)
        refine br_dec (fun h => absurd h (by decide)) (fun _ => ?_)
        refine br_dec (fun h => absurd h (by decide)) (fun _ => ?_)
        refine br_dec (fun _ => ?_) (fun h => absurd rfl h)
        refine br_dec (fun h => fin ?_) (fun h => fin ?_)
        all_goals simp [okL, h]
      · refine br_dec (fun h => absurd h (by decide)) (fun _ => ?_)
        refine br_dec (fun h => absurd h (by decide)) (fun _ => ?_)
        refine br_dec (fun h => absurd h (by decide)) (fun _ => ?_)
        refine br_dec (fun h => absurd h (by decide)) (fun _ => ?_)
        refine br_dec (fun h => absurd h (by decide)) (fun _ => ?_)
        refine br_dec (fun h => absurd h (by decide)) (fun _ => ?_)
        refine br_dec (fun h => absurd h (by decide)) (fun _ => ?_)
        exact fin (by simp [okL])
      · refine br_dec (fun h => absurd h (by decide)) (fun _ => ?_)
        refine br_dec (fun h => absurd h (by decide)) (fun _ => ?_)
        refine br_dec (fun h => absurd h (by decide)) (fun _ => ?_)
        refine br_dec (fun h => absurd h (by decide)) (fun _ => ?_)
        refine br_dec (fun h => absurd h (by decide)) (fun _ => ?_)
        refine br_dec (fun h => absurd h (by decide)) (fun _ => ?_)
        refine br_dec (fun h => absurd h (by decide)) (fun _ => ?_)
        exact fin (by simp [okL])
      · refine br_dec (fun h => absurd h (by decide)) (fun _ => ?_)
        refine br_dec (fun h => absurd h (by decide)) (fun _ => ?_)
        refine br_dec (fun h => absurd h (by decide)) (fun _ => ?_)
        refine br_dec (fun h => absurd h (by decide)) (fun _ => ?_)
        refine br_dec (fun h => absurd h (by decide)) (fun _ => ?_)
        refine br_dec (fun h => absurd h (by decide)) (fun _ => ?_)
        refine br_dec (fun h => absurd h (by decide)) (fun _ => ?_)
        exact fin (by simp [okL])
    rintro u136 w137 ⟨h15, hF137⟩
    change u136 15 = _ at h15
    have h := right w137 hF137
    obtain ⟨l, hl, h⟩ := rd_ex h
    refine rd_of hl (h.mono ?_)
    rintro _ w124 ⟨rfl, hf124⟩
    simp only [h15, hlaw, decide_true, isB_i, isK_i, isP_i, isTup_i, isInt_i, isSl_i, isPtr_i, isCs_i, isStr_i, isFn_i, isIf_i, rd_i, br_t, br_f, orO_s, orO_n, gd_t, bv_add, bv_sub, bv_mul, bv_eql, bv_neq, bv_lss, bv_leq, bv_gtr, bv_geq, bv_quo, bv_rem, bv_shl, bv_shr, bv_seq, bv_sne, bv_ptr, bv_if, bv_map, bv_nf, bv_bool, bv_sl, bv_fn, uv_not, uv_neg, eqV, nilV, nc_ptr, nc_fn, nc_if, Option.map_some, toN, Nat.mul_one, implies_true, true_and, and_true, and_self]
    exact hf124
end Go.Proofs.Ytfekkdmnboccfaa
