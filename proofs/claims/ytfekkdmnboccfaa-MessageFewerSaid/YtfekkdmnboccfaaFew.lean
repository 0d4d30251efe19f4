/- message's law 9: whoever has room has room for fewer.  Conditions: the messages may be read. -/
import Derived.Test.YtfekkdmnboccfaaApp
import Derived.Test.YtfekkdmnboccfaaC7
namespace Go.Proofs.Ytfekkdmnboccfaa
set_option linter.unusedSimpArgs false
set_option linter.unusedVariables false
open Go Go.RowKit VC
variable {w : World}
def bitsLen (l : List Msg) : Nat := (l.flatMap oneBits).length
theorem encBits_len (l : List Msg) : (encBits l).length = 5 + bitsLen l := by
  unfold encBits bitsLen; rw [List.length_append, bitsOf_length]
theorem bitsLen_app (l m : List Msg) : bitsLen (l ++ m) = bitsLen l + bitsLen m := by
  unfold bitsLen; rw [List.flatMap_append, List.length_append]
theorem bitsLen_take (l : List Msg) (i j : Nat) (h : i ≤ j) : bitsLen (l.take i) ≤ bitsLen (l.take j) := by
  have : l.take j = l.take i ++ (l.take j).drop i := by
    rw [show l.take i = (l.take j).take i by rw [List.take_take, Nat.min_eq_left h], List.take_append_drop]
  rw [this, bitsLen_app]; omega
theorem packLen (l : List Msg) : (pack (encBits l)).length = (5 + bitsLen l + 7) / 8 := by rw [pack_length, encBits_len]
theorem sliceAtS_hi {P : Program} {w : World} {t e : TypeId} {k : K} {b size : Nat} {z : Value} {a : Option Addr} {n c : Nat} {kl : IntKind} {l : Int} {KK : Value → World → Prop} (ht : (row P t).k = .slice e) (he : row P e = ⟨k, size, b, some z⟩) (h0 : 0 ≤ l) (h1 : l ≤ c)
    (kk : KK (.slice (if c = 0 then a else a.map (·.add 0)) l.toNat c) w) : runs P (Instr.sliceAt t (.slice a n c) none (some (.int kl l)) none) w KK := by
  obtain ⟨h, h2⟩ := elem_of_row ht
  obtain ⟨i, hi, hz, hsz, hbt⟩ := info_of_row he
  refine ⟨_, _, ?_, kk⟩
  rw [run_sliceAt_slice _ _ _ _ _ _ h, run_slice_h _ _ _ _ _ h _ _ h0 h1, h2, run_size hi, hsz]
  simp [Result.andThen, sliced]
theorem RowMsgs.keep {w w' : World} {base N : Nat} {sv : Value} {ms : List Msg} {S : Nat → Prop} (h : RowMsgs w base N sv ms) (f : Fm S w w') (hS : ∀ i, base ≤ i ∨ i < N → ¬ S i) : RowMsgs w' base N sv ms := by
  obtain ⟨qs, h1, h2, h3⟩ := h
  refine ⟨qs, h1, f.owns h2 fun i hi => hS i (.inl (own_block h2 hi).1), fun j m q hj hq => ?_⟩
  obtain ⟨h4, h5⟩ := h3 j m q hj hq
  exact ⟨h4.keepN f fun ad e hne => hS _ (.inr (h5 ad e hne)), h5⟩
theorem rowSl {base N : Nat} {v : Value} {l : List Msg} (h : RowMsgs w base N v l) : ∃ o d, v = .slice o l.length d := by
  obtain ⟨qs, hq, ho, -⟩ := h
  obtain ⟨o, d, rfl, -⟩ := own_readS ho
  exact ⟨o, d, rfl⟩
theorem lt_of_own {base e size n i : Nat} {s : Value} {xs : List Value} (h : w.ownsRow base e size s n xs) (hi : s.ownBlock = some i) : i < w.heap.size := by
  obtain ⟨_, cur, hc⟩ := own_block h hi
  exact lt_of_blk hc
theorem few_sum (l : List Msg) (m : Msg) : (pack (encBits (l ++ [m]))).length ≤ (pack (encBits l)).length + (pack (encBits [m])).length ∧ (pack (encBits l)).length ≤ (pack (encBits (l ++ [m]))).length ∧ (pack (encBits [m])).length ≤ (pack (encBits (l ++ [m]))).length := by
  rw [packLen, packLen, packLen, bitsLen_app]
  omega
theorem small {a b : Nat} (ha : a ≤ 1024) (hb : b ≤ 1024) : -9223372036854775808 ≤ (a : Int) + (b : Int) ∧ (a : Int) + (b : Int) ≤ 9223372036854775807 := by omega
theorem tail_lt {b c : Nat} (h : 1024 < b + c) (hb : b ≤ 1024) (hc : c ≤ 1024) : Value.bool (decide (1024 < IntKind.i64.wrap ((b : Int) + (c : Int)))) = Value.bool true := by
  rw [w64 (by omega), decide_eq_true (by omega)]
theorem tail_le {a b c : Nat} (h : a ≤ b + c) (hb : b ≤ 1024) (hc : c ≤ 1024) : Value.bool (decide ((a : Int) ≤ IntKind.i64.wrap ((b : Int) + (c : Int)))) = Value.bool true := by
  rw [w64 (by omega), decide_eq_true (by omega)]
theorem cast_le {a b : Nat} (h : a ≤ b) : (a : Int) ≤ (b : Int) := by omega
theorem msok_one {m : Msg} (h : Mok m) (hl : m.bytes.length ≤ 1100) : Msok [m] := ⟨by simpa using h, by intro x hx; simp at hx; subst hx; omega, by simp⟩
set_option maxRecDepth 20000 in
set_option maxHeartbeats 4000000 in
theorem fewer_c {ms : List Msg} {p q : Option Addr} {n c c' : Nat} {m : Msg} (hn : n = ms.length) (hin : In w p ms) (hm : Mok m) (hlc : m.bytes.length ≤ c') (hby : BytesAt w q m.bytes) :
    callV Try.prog 9 [.slice p n c, .agg (msgC m q c').toArray] w fun v w' => v = .bool true ∧ Fm none' w w' := by
  subst hn
  unfold msgC
  apply vc9
  refine allocC_of fun w1 hb1 hs1 hf1 => ?_
  change w1.heap[w.heap.size]? = some (.cells (msgC m q c').toArray 40 (0, 0)) at hb1
  obtain ⟨B, hB⟩ : ∃ B, B = w.heap.size := ⟨_, rfl⟩
  rw [← hB] at hb1 ⊢
  refine shown12_c.mono ?_
  rintro _ w3 ⟨rfl, hf3⟩
  simp only [isB_i, isK_i, isP_i, isTup_i, isInt_i, isSl_i, isPtr_i, isCs_i, isStr_i, isFn_i, isIf_i, rd_i, br_t, br_f, orO_s, orO_n, gd_t, bv_add, bv_sub, bv_mul, bv_eql, bv_neq, bv_lss, bv_leq, bv_gtr, bv_geq, bv_quo, bv_rem, bv_shl, bv_shr, bv_seq, bv_sne, bv_ptr, bv_if, bv_map, bv_nf, bv_bool, bv_sl, bv_fn, uv_not, uv_neg, eqV, nilV, nc_ptr, nc_fn, nc_if, Option.map_some, toN, Nat.mul_one, implies_true, true_and, and_true, and_self]
  obtain ⟨hok, hl11⟩ := few_ok hin.ok
  have hF3 := hf1.trans hf3
  refine (few13_c (N := B) (w := w3) (hB ▸ hin.rd.keep hF3 fun _ _ => id) (hin.keep hF3).cap (by have := hF3.size; omega)).mono ?_
  rintro v w6 ⟨hrow, hf6⟩
  obtain ⟨fp, fd, rfl, hfd⟩ : ∃ fp fd, v = .slice fp (fewM ms).length fd ∧ (fewM ms).length ≤ fd := by
    obtain ⟨qs, hq, ho, -⟩ := hrow
    obtain ⟨p4, c4, rfl, -⟩ := own_readS ho
    exact ⟨p4, c4, rfl, own_cap ho⟩
  obtain ⟨-, hat⟩ := hrow.at (by have := hF3.size; have := hf6.size; omega)
  simp only [isB_i, isK_i, isP_i, isTup_i, isInt_i, isSl_i, isPtr_i, isCs_i, isStr_i, isFn_i, isIf_i, rd_i, br_t, br_f, orO_s, orO_n, gd_t, bv_add, bv_sub, bv_mul, bv_eql, bv_neq, bv_lss, bv_leq, bv_gtr, bv_geq, bv_quo, bv_rem, bv_shl, bv_shr, bv_seq, bv_sne, bv_ptr, bv_if, bv_map, bv_nf, bv_bool, bv_sl, bv_fn, uv_not, uv_neg, eqV, nilV, nc_ptr, nc_fn, nc_if, Option.map_some, toN, Nat.mul_one, implies_true, true_and, and_true, and_self]
  obtain ⟨l, hl⟩ : ∃ l, l = fewM ms := ⟨_, rfl⟩
  have hl20 := few_len ms
  rw [← hl] at hok hl11 hat hl20 hrow hfd ⊢
  refine (enc_run hat hok).mono ?_
  rintro _ w11 ⟨e, ed, rfl, hbe, -, hf11⟩
  simp only [isB_i, isK_i, isP_i, isTup_i, isInt_i, isSl_i, isPtr_i, isCs_i, isStr_i, isFn_i, isIf_i, rd_i, br_t, br_f, orO_s, orO_n, gd_t, bv_add, bv_sub, bv_mul, bv_eql, bv_neq, bv_lss, bv_leq, bv_gtr, bv_geq, bv_quo, bv_rem, bv_shl, bv_shr, bv_seq, bv_sne, bv_ptr, bv_if, bv_map, bv_nf, bv_bool, bv_sl, bv_fn, uv_not, uv_neg, eqV, nilV, nc_ptr, nc_fn, nc_if, Option.map_some, toN, Nat.mul_one, implies_true, true_and, and_true, and_self, List.getElem?_cons_zero, List.getElem?_cons_succ]
  have hF11 := (hF3.trans hf6).trans hf11
  refine br_ndec (fun _ => hF11) (fun he => ?_)
  obtain ⟨hrok, h16, h1024, he1⟩ := enc_ok hok he
  have hb11 := hf11.keep (hf6.keep (hf3.keep hb1 id) id) id
  have hat11 := hat.fm hf11
  have henc : ∀ i, encodeM (l.take i) = (pack (encBits (l.take i)), 0) := fun i => by
    rw [enc_of fun m hm => hrok m (List.mem_of_mem_take hm), if_neg]
    rw [packLen] at h1024 ⊢
    have h1 := bitsLen_take l i (max i l.length) (by omega)
    rw [List.take_of_length_le (i := max i l.length) (by omega)] at h1
    have h2 : (l.take i).length ≤ l.length := by rw [List.length_take]; omega
    omega
  refine ⟨fun _ w' => Fm none' w11 w', ?_, ?_⟩
  · refine ⟨fun u w' => ∃ (i la : Nat), i ≤ l.length + 1 ∧ u 9 = .int .i64 i ∧ u 8 = .int .i64 la ∧ la ≤ (pack (encBits (l.take i))).length ∧ Fm none' w11 w', fun u _ => l.length + 1 - (intOf (u 9)).toNat, ⟨0, 0, by omega, rfl, rfl, Nat.zero_le _, Fm.refl _ _⟩, ?_⟩
    rintro u w24 ⟨i, la, hi, h9, h8, hla, hF⟩
    change u 9 = .int .i64 i at h9
    change u 8 = .int .i64 la at h8
    simp only [h8, h9, isB_i, isK_i, isP_i, isTup_i, isInt_i, isSl_i, isPtr_i, isCs_i, isStr_i, isFn_i, isIf_i, rd_i, br_t, br_f, orO_s, orO_n, gd_t, bv_add, bv_sub, bv_mul, bv_eql, bv_neq, bv_lss, bv_leq, bv_gtr, bv_geq, bv_quo, bv_rem, bv_shl, bv_shr, bv_seq, bv_sne, bv_ptr, bv_if, bv_map, bv_nf, bv_bool, bv_sl, bv_fn, uv_not, uv_neg, eqV, nilV, nc_ptr, nc_fn, nc_if, Option.map_some, toN, Nat.mul_one, implies_true, true_and, and_true, and_self]
    refine br_dec (fun hil => ?_) (fun _ => hF)
    have hil' : i ≤ l.length := by omega
    have htl : (l.take i).length = i := by rw [List.length_take]; omega
    refine sliceAtS_hi (by rw [row22]) row40 (by omega) (by omega) ?_
    simp only [isB_i, isK_i, isP_i, isTup_i, isInt_i, isSl_i, isPtr_i, isCs_i, isStr_i, isFn_i, isIf_i, rd_i, br_t, br_f, orO_s, orO_n, gd_t, bv_add, bv_sub, bv_mul, bv_eql, bv_neq, bv_lss, bv_leq, bv_gtr, bv_geq, bv_quo, bv_rem, bv_shl, bv_shr, bv_seq, bv_sne, bv_ptr, bv_if, bv_map, bv_nf, bv_bool, bv_sl, bv_fn, uv_not, uv_neg, eqV, nilV, nc_ptr, nc_fn, nc_if, Option.map_some, toN, Nat.mul_one, implies_true, true_and, and_true, and_self]
    have hen := enc_run (c := fd) ((hat11.fm hF).take i fd) ⟨fun m hm => hok.ok m (List.mem_of_mem_take hm), fun m hm => hok.len m (List.mem_of_mem_take hm), by rw [htl]; omega⟩
    rw [htl, henc i] at hen
    refine hen.mono ?_
    rintro _ w34 ⟨e34, d34, rfl, -, -, hf34⟩
    simp only [decide_true, Bool.not_true, isB_i, isK_i, isP_i, isTup_i, isInt_i, isSl_i, isPtr_i, isCs_i, isStr_i, isFn_i, isIf_i, rd_i, br_t, br_f, orO_s, orO_n, gd_t, bv_add, bv_sub, bv_mul, bv_eql, bv_neq, bv_lss, bv_leq, bv_gtr, bv_geq, bv_quo, bv_rem, bv_shl, bv_shr, bv_seq, bv_sne, bv_ptr, bv_if, bv_map, bv_nf, bv_bool, bv_sl, bv_fn, uv_not, uv_neg, eqV, nilV, nc_ptr, nc_fn, nc_if, Option.map_some, toN, Nat.mul_one, implies_true, true_and, and_true, and_self, List.getElem?_cons_zero, List.getElem?_cons_succ]
    refine br_dec (fun h => by omega) (fun _ => ?_)
    have hle : (pack (encBits (l.take i))).length ≤ (encodeM l).1.length := by
      rw [he1, packLen, packLen]
      have h1 := bitsLen_take l i l.length hil'
      rw [List.take_length] at h1
      omega
    refine br_dec (fun h => by omega) (fun _ => ?_)
    rw [w64 (by omega)]
    refine ⟨⟨i + 1, _, by omega, rfl, rfl, ?_, hF.trans hf34⟩, ?_⟩
    · rw [packLen, packLen]
      have h1 := bitsLen_take l i (i + 1) (by omega)
      omega
    · show l.length + 1 - ((i : Int) + 1).toNat < l.length + 1 - (i : Int).toNat; omega
  rintro - w47 (hf47 : Fm none' w11 w47)
  have hb47 := hf47.keep hb11 id
  refine rd_of (v := .slice q m.bytes.length c') (cellOf hb47 rfl) ?_
  simp only [isB_i, isK_i, isP_i, isTup_i, isInt_i, isSl_i, isPtr_i, isCs_i, isStr_i, isFn_i, isIf_i, rd_i, br_t, br_f, orO_s, orO_n, gd_t, bv_add, bv_sub, bv_mul, bv_eql, bv_neq, bv_lss, bv_leq, bv_gtr, bv_geq, bv_quo, bv_rem, bv_shl, bv_shr, bv_seq, bv_sne, bv_ptr, bv_if, bv_map, bv_nf, bv_bool, bv_sl, bv_fn, uv_not, uv_neg, eqV, nilV, nc_ptr, nc_fn, nc_if, Option.map_some, toN, Nat.mul_one, implies_true, true_and, and_true, and_self]
  refine rd_of (v := .slice q m.bytes.length c') (cellOf hb47 rfl) ?_
  simp only [isB_i, isK_i, isP_i, isTup_i, isInt_i, isSl_i, isPtr_i, isCs_i, isStr_i, isFn_i, isIf_i, rd_i, br_t, br_f, orO_s, orO_n, gd_t, bv_add, bv_sub, bv_mul, bv_eql, bv_neq, bv_lss, bv_leq, bv_gtr, bv_geq, bv_quo, bv_rem, bv_shl, bv_shr, bv_seq, bv_sne, bv_ptr, bv_if, bv_map, bv_nf, bv_bool, bv_sl, bv_fn, uv_not, uv_neg, eqV, nilV, nc_ptr, nc_fn, nc_if, Option.map_some, toN, Nat.mul_one, implies_true, true_and, and_true, and_self]
  have hF47 := hF11.trans hf47
  have hmin : min (m.bytes.length : Int) 1100 = ((min m.bytes.length 1100 : Nat) : Int) := by omega
  rw [hmin]
  refine sliceAt_hi (by rw [row25]) row5 (by omega) (by omega) ?_
  simp only [isB_i, isK_i, isP_i, isTup_i, isInt_i, isSl_i, isPtr_i, isCs_i, isStr_i, isFn_i, isIf_i, rd_i, br_t, br_f, orO_s, orO_n, gd_t, bv_add, bv_sub, bv_mul, bv_eql, bv_neq, bv_lss, bv_leq, bv_gtr, bv_geq, bv_quo, bv_rem, bv_shl, bv_shr, bv_seq, bv_sne, bv_ptr, bv_if, bv_map, bv_nf, bv_bool, bv_sl, bv_fn, uv_not, uv_neg, eqV, nilV, nc_ptr, nc_fn, nc_if, Option.map_some, toN, Nat.mul_one, implies_true, true_and, and_true, and_self]
  refine stC_one hb47 (by simp [msgC]) rfl fun w62 hb62 hf62 => ?_
  rw [show min m.bytes.length 1100 = (m.bytes.take 1100).length by rw [List.length_take]; omega] at hb62
  obtain ⟨q1, hq1⟩ : ∃ q1, q1 = (if c' = 0 then q else q.map (·.add 0)) := ⟨_, rfl⟩
  rw [← hq1] at hb62
  change w62.heap[B]? = some (.cells (msgC (cut 1100 m) q1 c').toArray 40 (0, 0)) at hb62
  obtain ⟨m', hm'⟩ : ∃ m', m' = cut 1100 m := ⟨_, rfl⟩
  rw [← hm'] at hb62
  have hmok : Mok m' := by rw [hm']; exact mok_cut hm 1100
  have hl9 : m'.bytes.length ≤ 1100 := by rw [hm']; show (m.bytes.take 1100).length ≤ 1100; rw [List.length_take]; omega
  have hBl : w.heap.size ≤ B := by omega
  have hF62 : Fm none' w w62 := hF47.trans' hf62 (by rintro i hi rfl; omega)
  have hby62 : BytesAt w62 q1 m'.bytes := by
    rw [hq1, hm']
    exact ((hby.keep hF62 fun _ _ => id).take 1100).zero c'
  have hat62 : MsgsAt w62 w62.heap.size fp l := by
    have hs3 := hF3.size
    have hs1' := hf3.size
    have h62 := hF62.size
    exact ((hrow.keep (hf11.trans hf47) fun _ _ => id).keep hf62 (by rintro i hi rfl; omega)).at (by omega) |>.2
  refine rd_of (v := msgC m' q1 c') (cells_all hb62 rfl) ?_
  refine (right16_c hmok hby62 hby62.lt (by omega)).mono ?_
  rintro _ w65 ⟨rfl, hf65⟩
  simp only [isB_i, isK_i, isP_i, isTup_i, isInt_i, isSl_i, isPtr_i, isCs_i, isStr_i, isFn_i, isIf_i, rd_i, br_t, br_f, orO_s, orO_n, gd_t, bv_add, bv_sub, bv_mul, bv_eql, bv_neq, bv_lss, bv_leq, bv_gtr, bv_geq, bv_quo, bv_rem, bv_shl, bv_shr, bv_seq, bv_sne, bv_ptr, bv_if, bv_map, bv_nf, bv_bool, bv_sl, bv_fn, uv_not, uv_neg, eqV, nilV, nc_ptr, nc_fn, nc_if, Option.map_some, toN, Nat.mul_one, implies_true, true_and, and_true, and_self]
  have hF65 := hF62.trans hf65
  refine br_ndec' (fun hr => hF65) (fun hr => ?_)
  have hrm := rok_of hmok (by omega) hr
  have hb65 := hf65.keep hb62 id
  have hby65 := hby62.keep hf65 fun _ _ => id
  refine rd_of (v := msgC m' q1 c') (cells_all hb65 rfl) ?_
  refine build_S (cs := msgC m' q1 c') (by rw [row22]) row40 rfl (by omega) (by omega) rfl fun w69 hb69 hs69 hf69 => ?_
  simp only [isB_i, isK_i, isP_i, isTup_i, isInt_i, isSl_i, isPtr_i, isCs_i, isStr_i, isFn_i, isIf_i, rd_i, br_t, br_f, orO_s, orO_n, gd_t, bv_add, bv_sub, bv_mul, bv_eql, bv_neq, bv_lss, bv_leq, bv_gtr, bv_geq, bv_quo, bv_rem, bv_shl, bv_shr, bv_seq, bv_sne, bv_ptr, bv_if, bv_map, bv_nf, bv_bool, bv_sl, bv_fn, uv_not, uv_neg, eqV, nilV, nc_ptr, nc_fn, nc_if, Option.map_some, toN, Nat.mul_one, implies_true, true_and, and_true, and_self]
  have hby69 := hby65.keep hf69 fun _ _ => id
  refine (enc_run (ms := [m']) (oneM (N := 0) hb69 hby69 hby69.lt) (msok_one hmok hl9)).mono ?_
  rintro _ w74 ⟨e74, d74, rfl, -, -, hf74⟩
  simp only [isB_i, isK_i, isP_i, isTup_i, isInt_i, isSl_i, isPtr_i, isCs_i, isStr_i, isFn_i, isIf_i, rd_i, br_t, br_f, orO_s, orO_n, gd_t, bv_add, bv_sub, bv_mul, bv_eql, bv_neq, bv_lss, bv_leq, bv_gtr, bv_geq, bv_quo, bv_rem, bv_shl, bv_shr, bv_seq, bv_sne, bv_ptr, bv_if, bv_map, bv_nf, bv_bool, bv_sl, bv_fn, uv_not, uv_neg, eqV, nilV, nc_ptr, nc_fn, nc_if, Option.map_some, toN, Nat.mul_one, implies_true, true_and, and_true, and_self, List.getElem?_cons_zero, List.getElem?_cons_succ]
  have hf74' := (hf69.trans hf74).trans (Fm.drew w74)
  have hb74 := hf74'.keep hb65 id
  have hby74 := hby65.keep hf74' fun _ _ => id
  have hat74 := (hat62.fm hf65).fm hf74'
  have hF74 := hF65.trans hf74'
  obtain ⟨W, hW⟩ : ∃ W, W = w74.drew := ⟨_, rfl⟩
  rw [← hW] at hb74 hby74 hat74 hF74 ⊢
  have hokL : Msok (l ++ [m']) := ⟨fun x hx => (List.mem_append.1 hx).elim (hok.ok x) fun h => by simp at h; subst h; exact hmok, fun x hx => (List.mem_append.1 hx).elim (hok.len x) fun h => by simp at h; subst h; omega, by simp; omega⟩
  have hL : ∀ x ∈ l ++ [m'], Rok x := fun x hx => (List.mem_append.1 hx).elim (hrok x) fun h => by simp at h; subst h; exact hrm
  -- Encode of all of them
  have more : ∀ (w' : World) (base : Nat) (v : Value) (K : Value → World → Prop), W.heap.size ≤ base → RowMsgs w' base W.heap.size v (l ++ [m']) → W.heap.size ≤ w'.heap.size →
      (∀ e d w'', Fm none' w' w'' → K (.tuple #[.slice e (encodeM (l ++ [m'])).1.length d, .int .i64 (encodeM (l ++ [m'])).2]) w'') → ∃ o d, v = .slice o (l ++ [m']).length d ∧ callV Try.prog 14 [.slice o (l ++ [m']).length d] w' K := by
    intro w' base v K hb hr hs hK
    have hr' := hr
    obtain ⟨qs, hq, ho, -⟩ := hr'
    obtain ⟨o, d, rfl, -⟩ := own_readS ho
    obtain ⟨-, ha⟩ := hr.at hs
    refine ⟨o, d, rfl, (enc_run ha hokL).mono ?_⟩
    rintro _ w'' ⟨e', d', rfl, -, -, hf⟩
    exact hK e' d' w'' hf
  have last : ∀ (w1 : World) (base g : Nat) (s : Value), W.heap.size ≤ base → base ≤ w1.heap.size → Fm none' W w1 → RowMsgs w1 base W.heap.size s l → w1.heap[g]? = some (.cells (msgC m' q1 c').toArray 40 (0, 0)) →
      ∀ K : Value → World → Prop, (∀ e d w3, Fm none' W w3 → K (.tuple #[.slice e (encodeM (l ++ [m'])).1.length d, .int .i64 (encodeM (l ++ [m'])).2]) w3) →
      runs Try.prog (Builtin.append_ #[22, 22] 22 #[s, .slice (some ⟨g, 0, none⟩) 1 1]) w1 fun v w2 => isSl v fun o n d => w2.heap[B]? = some (.cells (msgC m' q1 c').toArray 40 (0, 0)) ∧
        callV Try.prog 14 [.slice o n d] w2 fun v w3 => w3.heap[B]? = some (.cells (msgC m' q1 c').toArray 40 (0, 0)) ∧ K v w3 := by
    intro w1 base g s hb hbw hf hr hg K hK
    refine app_one hr hb hbw hg (by omega) (hby74.keep hf fun _ _ => id) (fun ad e hne => hby74.lt ad e hne) fun v2 w2 hr2 hf2 => ?_
    have hF2 := hf.trans' hf2 fun i hi e => by
      obtain ⟨qs, -, ho, -⟩ := hr
      have := (own_block ho e).1; omega
    obtain ⟨o, d, rfl, hc⟩ := more w2 base v2 (fun v w3 => w3.heap[B]? = some (.cells (msgC m' q1 c').toArray 40 (0, 0)) ∧ K v w3) hb hr2 hF2.size fun e d w3 hf3 => ⟨(hF2.trans hf3).keep hb74 id, hK e d w3 (hF2.trans hf3)⟩
    simp only [isB_i, isK_i, isP_i, isTup_i, isInt_i, isSl_i, isPtr_i, isCs_i, isStr_i, isFn_i, isIf_i, rd_i, br_t, br_f, orO_s, orO_n, gd_t, bv_add, bv_sub, bv_mul, bv_eql, bv_neq, bv_lss, bv_leq, bv_gtr, bv_geq, bv_quo, bv_rem, bv_shl, bv_shr, bv_seq, bv_sne, bv_ptr, bv_if, bv_map, bv_nf, bv_bool, bv_sl, bv_fn, uv_not, uv_neg, eqV, nilV, nc_ptr, nc_fn, nc_if, Option.map_some, toN, Nat.mul_one, implies_true, true_and, and_true, and_self]
    exact ⟨hF2.keep hb74 id, hc⟩
  refine ⟨fun u w' => ∃ e d, u 14 = .slice e (encodeM (l ++ [m'])).1.length d ∧ u 15 = .int .i64 (encodeM (l ++ [m'])).2 ∧ Fm none' w w', ?_, ?_⟩
  · refine ⟨fun w' => w'.heap[B]? = some (.cells (msgC m' q1 c').toArray 40 (0, 0)), ?_⟩
    refine ⟨hb74, ?_⟩
    simp only [isB_i, isK_i, isP_i, isTup_i, isInt_i, isSl_i, isPtr_i, isCs_i, isStr_i, isFn_i, isIf_i, rd_i, br_t, br_f, orO_s, orO_n, gd_t, bv_add, bv_sub, bv_mul, bv_eql, bv_neq, bv_lss, bv_leq, bv_gtr, bv_geq, bv_quo, bv_rem, bv_shl, bv_shr, bv_seq, bv_sne, bv_ptr, bv_if, bv_map, bv_nf, bv_bool, bv_sl, bv_fn, uv_not, uv_neg, eqV, nilV, nc_ptr, nc_fn, nc_if, Option.map_some, toN, Nat.mul_one, implies_true, true_and, and_true, and_self]
    refine rd_of (v := msgC m' q1 c') (cells_all hb74 rfl) ⟨fun w' hw => rd_of (cells_all hw rfl) rfl, ?_, ?_⟩
    · refine buildS_none (by rw [row22]) row40 fun s w92 hs hf92 => ?_
      obtain ⟨o93, n93, rfl, -, -⟩ := own_readS hs
      simp only [isB_i, isK_i, isP_i, isTup_i, isInt_i, isSl_i, isPtr_i, isCs_i, isStr_i, isFn_i, isIf_i, rd_i, br_t, br_f, orO_s, orO_n, gd_t, bv_add, bv_sub, bv_mul, bv_eql, bv_neq, bv_lss, bv_leq, bv_gtr, bv_geq, bv_quo, bv_rem, bv_shl, bv_shr, bv_seq, bv_sne, bv_ptr, bv_if, bv_map, bv_nf, bv_bool, bv_sl, bv_fn, uv_not, uv_neg, eqV, nilV, nc_ptr, nc_fn, nc_if, Option.map_some, toN, Nat.mul_one, implies_true, true_and, and_true, and_self]
      have hs92 := hf92.size
      refine ⟨hf92.keep hb74 id, ?_, ?_⟩
      · refine app_rows (N := W.heap.size) rfl hs (hat74.keep hf92 fun _ _ => id) (Nat.le_refl _) hs92 (by omega) fun v97 w97 hr97 hf97 => ?_
        have hF97 := hf92.trans' hf97 fun i hi e => by have := (own_block hs e).1; omega
        obtain ⟨o98, d98, rfl⟩ := rowSl hr97
        simp only [isB_i, isK_i, isP_i, isTup_i, isInt_i, isSl_i, isPtr_i, isCs_i, isStr_i, isFn_i, isIf_i, rd_i, br_t, br_f, orO_s, orO_n, gd_t, bv_add, bv_sub, bv_mul, bv_eql, bv_neq, bv_lss, bv_leq, bv_gtr, bv_geq, bv_quo, bv_rem, bv_shl, bv_shr, bv_seq, bv_sne, bv_ptr, bv_if, bv_map, bv_nf, bv_bool, bv_sl, bv_fn, uv_not, uv_neg, eqV, nilV, nc_ptr, nc_fn, nc_if, Option.map_some, toN, Nat.mul_one, implies_true, true_and, and_true, and_self]
        refine ⟨hF97.keep hb74 id, ?_⟩
        refine build_S (cs := msgC m' q1 c') (by rw [row22]) row40 rfl (by omega) (by omega) rfl fun w102 hb102 hs102 hf102 => ?_
        simp only [isB_i, isK_i, isP_i, isTup_i, isInt_i, isSl_i, isPtr_i, isCs_i, isStr_i, isFn_i, isIf_i, rd_i, br_t, br_f, orO_s, orO_n, gd_t, bv_add, bv_sub, bv_mul, bv_eql, bv_neq, bv_lss, bv_leq, bv_gtr, bv_geq, bv_quo, bv_rem, bv_shl, bv_shr, bv_seq, bv_sne, bv_ptr, bv_if, bv_map, bv_nf, bv_bool, bv_sl, bv_fn, uv_not, uv_neg, eqV, nilV, nc_ptr, nc_fn, nc_if, Option.map_some, toN, Nat.mul_one, implies_true, true_and, and_true, and_self]
        have hF102 := hF97.trans hf102
        refine ⟨hF102.keep hb74 id, ?_⟩
        have hz := last w102 W.heap.size w97.heap.size _ (Nat.le_refl _) hF102.size hF102 (hr97.keep hf102 fun _ _ => id) hb102
        refine hz _ fun e d w3 hf3 => ?_
        simp only [isB_i, isK_i, isP_i, isTup_i, isInt_i, isSl_i, isPtr_i, isCs_i, isStr_i, isFn_i, isIf_i, rd_i, br_t, br_f, orO_s, orO_n, gd_t, bv_add, bv_sub, bv_mul, bv_eql, bv_neq, bv_lss, bv_leq, bv_gtr, bv_geq, bv_quo, bv_rem, bv_shl, bv_shr, bv_seq, bv_sne, bv_ptr, bv_if, bv_map, bv_nf, bv_bool, bv_sl, bv_fn, uv_not, uv_neg, eqV, nilV, nc_ptr, nc_fn, nc_if, Option.map_some, toN, Nat.mul_one, implies_true, true_and, and_true, and_self, List.getElem?_cons_zero, List.getElem?_cons_succ]
        exact ⟨e, d, rfl, rfl, hF74.trans hf3⟩
      · refine build_S (cs := msgC m' q1 c') (by rw [row22]) row40 rfl (by omega) (by omega) rfl fun w136 hb136 hs136 hf136 => ?_
        simp only [isB_i, isK_i, isP_i, isTup_i, isInt_i, isSl_i, isPtr_i, isCs_i, isStr_i, isFn_i, isIf_i, rd_i, br_t, br_f, orO_s, orO_n, gd_t, bv_add, bv_sub, bv_mul, bv_eql, bv_neq, bv_lss, bv_leq, bv_gtr, bv_geq, bv_quo, bv_rem, bv_shl, bv_shr, bv_seq, bv_sne, bv_ptr, bv_if, bv_map, bv_nf, bv_bool, bv_sl, bv_fn, uv_not, uv_neg, eqV, nilV, nc_ptr, nc_fn, nc_if, Option.map_some, toN, Nat.mul_one, implies_true, true_and, and_true, and_self]
        have hF136 := hf92.trans hf136
        refine ⟨hF136.keep hb74 id, ?_⟩
        have hs' := hf136.owns hs fun _ _ => id
        refine app_rows (N := W.heap.size) rfl hs' (hat74.keep hF136 fun _ _ => id) (Nat.le_refl _) hF136.size (by omega) fun v97 w97 hr97 hf97 => ?_
        have hF97 := hF136.trans' hf97 fun i hi e => by have := (own_block hs' e).1; omega
        obtain ⟨o98, d98, rfl⟩ := rowSl hr97
        simp only [isB_i, isK_i, isP_i, isTup_i, isInt_i, isSl_i, isPtr_i, isCs_i, isStr_i, isFn_i, isIf_i, rd_i, br_t, br_f, orO_s, orO_n, gd_t, bv_add, bv_sub, bv_mul, bv_eql, bv_neq, bv_lss, bv_leq, bv_gtr, bv_geq, bv_quo, bv_rem, bv_shl, bv_shr, bv_seq, bv_sne, bv_ptr, bv_if, bv_map, bv_nf, bv_bool, bv_sl, bv_fn, uv_not, uv_neg, eqV, nilV, nc_ptr, nc_fn, nc_if, Option.map_some, toN, Nat.mul_one, implies_true, true_and, and_true, and_self]
        refine ⟨hF97.keep hb74 id, ?_⟩
        have hz := last w97 W.heap.size w92.heap.size _ (Nat.le_refl _) hF97.size hF97 hr97 (hf97.keep hb136 fun e => by have := lt_of_own hs e; omega)
        refine hz _ fun e d w3 hf3 => ?_
        simp only [isB_i, isK_i, isP_i, isTup_i, isInt_i, isSl_i, isPtr_i, isCs_i, isStr_i, isFn_i, isIf_i, rd_i, br_t, br_f, orO_s, orO_n, gd_t, bv_add, bv_sub, bv_mul, bv_eql, bv_neq, bv_lss, bv_leq, bv_gtr, bv_geq, bv_quo, bv_rem, bv_shl, bv_shr, bv_seq, bv_sne, bv_ptr, bv_if, bv_map, bv_nf, bv_bool, bv_sl, bv_fn, uv_not, uv_neg, eqV, nilV, nc_ptr, nc_fn, nc_if, Option.map_some, toN, Nat.mul_one, implies_true, true_and, and_true, and_self, List.getElem?_cons_zero, List.getElem?_cons_succ]
        exact ⟨e, d, rfl, rfl, hF74.trans hf3⟩
    · refine build_S (cs := msgC m' q1 c') (by rw [row22]) row40 rfl (by omega) (by omega) rfl fun w175 hb175 hs175 hf175 => ?_
      simp only [isB_i, isK_i, isP_i, isTup_i, isInt_i, isSl_i, isPtr_i, isCs_i, isStr_i, isFn_i, isIf_i, rd_i, br_t, br_f, orO_s, orO_n, gd_t, bv_add, bv_sub, bv_mul, bv_eql, bv_neq, bv_lss, bv_leq, bv_gtr, bv_geq, bv_quo, bv_rem, bv_shl, bv_shr, bv_seq, bv_sne, bv_ptr, bv_if, bv_map, bv_nf, bv_bool, bv_sl, bv_fn, uv_not, uv_neg, eqV, nilV, nc_ptr, nc_fn, nc_if, Option.map_some, toN, Nat.mul_one, implies_true, true_and, and_true, and_self]
      refine ⟨hf175.keep hb74 id, ?_⟩
      refine buildS_none (by rw [row22]) row40 fun s w180 hs hf180 => ?_
      obtain ⟨o93, n93, rfl, -, -⟩ := own_readS hs
      simp only [isB_i, isK_i, isP_i, isTup_i, isInt_i, isSl_i, isPtr_i, isCs_i, isStr_i, isFn_i, isIf_i, rd_i, br_t, br_f, orO_s, orO_n, gd_t, bv_add, bv_sub, bv_mul, bv_eql, bv_neq, bv_lss, bv_leq, bv_gtr, bv_geq, bv_quo, bv_rem, bv_shl, bv_shr, bv_seq, bv_sne, bv_ptr, bv_if, bv_map, bv_nf, bv_bool, bv_sl, bv_fn, uv_not, uv_neg, eqV, nilV, nc_ptr, nc_fn, nc_if, Option.map_some, toN, Nat.mul_one, implies_true, true_and, and_true, and_self]
      have hF180 := hf175.trans hf180
      have hs180 := hf180.size
      refine ⟨hF180.keep hb74 id, ?_⟩
      refine app_rows (N := W.heap.size) rfl hs (hat74.keep hF180 fun _ _ => id) (by omega) hf180.size (by omega) fun v97 w97 hr97 hf97 => ?_
      have hF97 := hF180.trans' hf97 fun i hi e => by have := (own_block hs e).1; omega
      obtain ⟨o98, d98, rfl⟩ := rowSl hr97
      simp only [isB_i, isK_i, isP_i, isTup_i, isInt_i, isSl_i, isPtr_i, isCs_i, isStr_i, isFn_i, isIf_i, rd_i, br_t, br_f, orO_s, orO_n, gd_t, bv_add, bv_sub, bv_mul, bv_eql, bv_neq, bv_lss, bv_leq, bv_gtr, bv_geq, bv_quo, bv_rem, bv_shl, bv_shr, bv_seq, bv_sne, bv_ptr, bv_if, bv_map, bv_nf, bv_bool, bv_sl, bv_fn, uv_not, uv_neg, eqV, nilV, nc_ptr, nc_fn, nc_if, Option.map_some, toN, Nat.mul_one, implies_true, true_and, and_true, and_self]
      refine ⟨hF97.keep hb74 id, ?_⟩
      have hz := last w97 w175.heap.size W.heap.size _ (by omega) (by have := hf97.size; omega) hF97 hr97 (hf97.keep (hf180.keep hb175 id) fun e => by have := (own_block hs e).1; omega)
      refine hz _ fun e d w3 hf3 => ?_
      simp only [isB_i, isK_i, isP_i, isTup_i, isInt_i, isSl_i, isPtr_i, isCs_i, isStr_i, isFn_i, isIf_i, rd_i, br_t, br_f, orO_s, orO_n, gd_t, bv_add, bv_sub, bv_mul, bv_eql, bv_neq, bv_lss, bv_leq, bv_gtr, bv_geq, bv_quo, bv_rem, bv_shl, bv_shr, bv_seq, bv_sne, bv_ptr, bv_if, bv_map, bv_nf, bv_bool, bv_sl, bv_fn, uv_not, uv_neg, eqV, nilV, nc_ptr, nc_fn, nc_if, Option.map_some, toN, Nat.mul_one, implies_true, true_and, and_true, and_self, List.getElem?_cons_zero, List.getElem?_cons_succ]
      exact ⟨e, d, rfl, rfl, hF74.trans hf3⟩
  · rintro u w220 ⟨e2, d2, h14, h15, hF2⟩
    change u 14 = _ at h14
    change u 15 = _ at h15
    simp only [h14, h15, isB_i, isK_i, isP_i, isTup_i, isInt_i, isSl_i, isPtr_i, isCs_i, isStr_i, isFn_i, isIf_i, rd_i, br_t, br_f, orO_s, orO_n, gd_t, bv_add, bv_sub, bv_mul, bv_eql, bv_neq, bv_lss, bv_leq, bv_gtr, bv_geq, bv_quo, bv_rem, bv_shl, bv_shr, bv_seq, bv_sne, bv_ptr, bv_if, bv_map, bv_nf, bv_bool, bv_sl, bv_fn, uv_not, uv_neg, eqV, nilV, nc_ptr, nc_fn, nc_if, Option.map_some, toN, Nat.mul_one, implies_true, true_and, and_true, and_self]
    have e1 := enc_of hL
    have e2 := enc_of (l := [m']) (by simpa using hrm)
    obtain ⟨hx, hy⟩ := few_sum l m'
    rw [he1]
    have hlL : (l ++ [m']).length = l.length + 1 := by simp
    clear hat11 henc more last hrow hat hat62 hat74 hm'
    by_cases hc : 16 < (l ++ [m']).length ∨ 1024 < (pack (encBits (l ++ [m']))).length
    · have e1' : encodeM (l ++ [m']) = ([], 5) := e1.trans (if_pos hc)
      rw [e1']
      refine br_dec (fun h => by cases h) (fun _ => ?_)
      refine br_dec (fun _ => ?_) (fun h => absurd rfl h)
      refine br_dec (fun _ => hF2) (fun h16' => ?_)
      have hc' : 1024 < (pack (encBits (l ++ [m']))).length := hc.resolve_left (by omega)
      by_cases hc2 : 16 < [m'].length ∨ 1024 < (pack (encBits [m'])).length
      · have e2' : encodeM [m'] = ([], 5) := e2.trans (if_pos hc2)
        rw [e2']
        exact br_dec (fun _ => hF2) (fun h => absurd rfl h)
      · have e2' : encodeM [m'] = (pack (encBits [m']), 0) := e2.trans (if_neg hc2)
        rw [e2']
        dsimp only
        refine br_dec (fun h => by cases h) (fun _ => ⟨?_, hF2⟩)
        have hy1 : (pack (encBits [m'])).length ≤ 1024 := Nat.le_of_not_lt fun h => hc2 (.inr h)
        have hs : 1024 < (pack (encBits l)).length + (pack (encBits [m'])).length := Nat.lt_of_lt_of_le hc' hx
        exact tail_lt hs h1024 hy1
    · have e1' : encodeM (l ++ [m']) = (pack (encBits (l ++ [m'])), 0) := e1.trans (if_neg hc)
      rw [e1']
      have hc3 : (pack (encBits (l ++ [m']))).length ≤ 1024 := Nat.le_of_not_lt fun h => hc (.inr h)
      have hy1 : (pack (encBits [m'])).length ≤ 1024 := Nat.le_trans hy.2 hc3
      have hc2 : ¬ (16 < [m'].length ∨ 1024 < (pack (encBits [m'])).length) := by
        rintro (h | h)
        · simp at h
        · exact absurd hy1 (Nat.not_le_of_lt h)
      have e2' : encodeM [m'] = (pack (encBits [m']), 0) := e2.trans (if_neg hc2)
      rw [e2']
      dsimp only
      refine br_dec (fun _ => ?_) (fun h => absurd rfl h)
      refine br_dec (fun _ => ?_) (fun h => absurd rfl h)
      exact br_dec (fun _ => ⟨tail_le hx h1024 hy1, hF2⟩) (fun h => absurd (cast_le hy.1) h)
end Go.Proofs.Ytfekkdmnboccfaa
