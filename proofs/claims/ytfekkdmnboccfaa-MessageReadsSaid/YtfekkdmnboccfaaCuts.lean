/- message's law 6: a datagram that is cut off is none.  Conditions: the messages may be read. -/
import Derived.Test.YtfekkdmnboccfaaShown
import Derived.Test.YtfekkdmnboccfaaPure
namespace Go.Proofs.Ytfekkdmnboccfaa
set_option linter.unusedSimpArgs false
set_option linter.unusedVariables false
open Go Go.RowKit VC
/-- Messages as arguments are. -/
structure In (w : World) (p : Option Addr) (ms : List Msg) : Prop where
  rd : MsgsAt w w.heap.size p ms
  cap : Caps w p ms
  ok : ∀ m ∈ ms, Mok m
theorem MsgsAt.cells {w : World} {N : Nat} {p : Option Addr} {ms : List Msg} (h : MsgsAt w N p ms) {w' : World} {S : Nat → Prop} (f : Fm S w w') (hS : ∀ i, i < N → ¬ S i) {j : Nat} {m : Msg} {ad : Addr} (hj : ms[j]? = some m) (hp : p = some ad) : cellsAt w' (ad.add (j * 23)) 23 = cellsAt w (ad.add (j * 23)) 23 := by
  obtain ⟨ad', q, cq, e, hb, hc, -⟩ := h j m hj
  rw [hp] at e; cases e
  rw [hc]
  exact f.cells (by rw [add_block]; exact hS _ hb) hc
theorem In.keep {w w' : World} {p : Option Addr} {ms : List Msg} (h : In w p ms) (f : Fm none' w w') : In w' p ms :=
  ⟨(h.rd.keep f fun _ _ => id).up f.size, fun j m q cq ad hj hp hc => h.cap j m q cq ad hj hp (by rw [← h.rd.cells f (fun _ _ => id) hj hp]; exact hc), h.ok⟩
theorem few_len (ms : List Msg) : (fewM ms).length ≤ 20 := by unfold fewM; simp; omega
theorem mok_cut {m : Msg} (h : Mok m) (k : Nat) : Mok (cut k m) := ⟨h.kind, h.seq, h.cq, h.cb, h.cdx, h.cdy, h.ct, h.prov, h.id, h.shot, h.d0, h.d1, h.d2, h.why, h.p0, h.p1, h.p2, h.v0, h.v1, h.v2, h.tick, h.bse, fun y hy => h.bytes y (List.mem_of_mem_take hy)⟩
theorem few_mem {ms : List Msg} {m : Msg} (h : m ∈ fewM ms) : ∃ m0 ∈ ms, m = cut 1100 m0 := by
  unfold fewM at h
  obtain ⟨m0, h0, rfl⟩ := List.mem_map.1 h
  exact ⟨m0, List.mem_of_mem_take h0, rfl⟩
theorem few_ok {ms : List Msg} (h : ∀ m ∈ ms, Mok m) : Msok (fewM ms) ∧ ∀ m ∈ fewM ms, m.bytes.length ≤ 1100 := by
  have hl : ∀ m ∈ fewM ms, m.bytes.length ≤ 1100 := by
    intro m hm
    obtain ⟨m0, h0, rfl⟩ := few_mem hm
    show (m0.bytes.take 1100).length ≤ 1100
    rw [List.length_take]; omega
  refine ⟨⟨fun m hm => ?_, fun m hm => by have := hl m hm; omega, by have := few_len ms; omega⟩, hl⟩
  obtain ⟨m0, h0, rfl⟩ := few_mem hm
  exact mok_cut (h m0 h0) _
theorem enc_ok {l : List Msg} (h : Msok l) (he : (encodeM l).2 = 0) : (∀ m ∈ l, Rok m) ∧ l.length ≤ 16 ∧ (pack (encBits l)).length ≤ 1024 ∧ (encodeM l).1 = pack (encBits l) := by
  unfold encodeM at he ⊢
  split at he
  · rename_i ha
    rw [if_pos ha]
    split at he
    · cases he
    · rename_i hn
      rw [if_neg hn]
      rw [List.all_eq_true] at ha
      exact ⟨fun m hm => rok_of (h.ok m hm) (by have := h.len m hm; omega) (ha m hm), by omega, by omega, rfl⟩
  · cases he
theorem enc_of {l : List Msg} (h : ∀ m ∈ l, Rok m) : encodeM l = if 16 < l.length ∨ 1024 < (pack (encBits l)).length then ([], 5) else (pack (encBits l), 0) := by
  unfold encodeM
  rw [if_pos (List.all_eq_true.2 fun m hm => (h m hm).right)]
theorem encBits_pos (l : List Msg) : 0 < (pack (encBits l)).length := by
  rw [pack_length]
  unfold encBits
  rw [List.length_append, bitsOf_length]; omega
theorem BytesAt.lenle {w : World} {p : Option Addr} {ys : List Int} (_ : BytesAt w p ys) : True := trivial
variable {w : World}
set_option maxRecDepth 20000 in
set_option maxHeartbeats 1000000 in
theorem cuts_c {ms : List Msg} {p : Option Addr} {n c : Nat} {b d : Int} (hn : n = ms.length) (hin : In w p ms) (hd : 0 ≤ d ∧ d < 256) :
    callV Try.prog 6 [.slice p n c, .int .i64 b, .int .u8 d] w fun v w' => v = .bool true ∧ Fm none' w w' := by
  subst hn
  refine vc6 p ms.length c b d w _ ?_
  refine shown12_c.mono ?_
  rintro _ w1 ⟨rfl, hf1⟩
  simp only [isB_i, isK_i, isP_i, isTup_i, isInt_i, isSl_i, isPtr_i, isCs_i, isStr_i, isFn_i, isIf_i, rd_i, br_t, br_f, orO_s, orO_n, gd_t, bv_add, bv_sub, bv_mul, bv_eql, bv_neq, bv_lss, bv_leq, bv_gtr, bv_geq, bv_quo, bv_rem, bv_shl, bv_shr, bv_seq, bv_sne, bv_ptr, bv_if, bv_map, bv_nf, bv_bool, bv_sl, bv_fn, uv_not, uv_neg, eqV, nilV, nc_ptr, nc_fn, nc_if, Option.map_some, toN, Nat.mul_one, implies_true, true_and, and_true, and_self]
  have hin1 := hin.keep hf1
  refine (few13_c hin1.rd hin1.cap (Nat.le_refl _)).mono ?_
  rintro v w4 ⟨hrow, hf4⟩
  obtain ⟨hmsok, hl11⟩ := few_ok hin.ok
  obtain ⟨p4, c4, rfl⟩ : ∃ p4 c4, v = .slice p4 (fewM ms).length c4 := by
    obtain ⟨qs, hq, ho, -⟩ := hrow
    obtain ⟨p4, c4, h, -⟩ := own_readS ho
    exact ⟨p4, c4, h⟩
  obtain ⟨-, hat⟩ := hrow.at hf4.size
  simp only [isB_i, isK_i, isP_i, isTup_i, isInt_i, isSl_i, isPtr_i, isCs_i, isStr_i, isFn_i, isIf_i, rd_i, br_t, br_f, orO_s, orO_n, gd_t, bv_add, bv_sub, bv_mul, bv_eql, bv_neq, bv_lss, bv_leq, bv_gtr, bv_geq, bv_quo, bv_rem, bv_shl, bv_shr, bv_seq, bv_sne, bv_ptr, bv_if, bv_map, bv_nf, bv_bool, bv_sl, bv_fn, uv_not, uv_neg, eqV, nilV, nc_ptr, nc_fn, nc_if, Option.map_some, toN, Nat.mul_one, implies_true, true_and, and_true, and_self]
  refine (encode14_c hat (Nat.le_refl _) hmsok).mono ?_
  rintro _ w9 ⟨sv, rfl, hown9, hf9⟩
  obtain ⟨p9, c9, rfl, -⟩ := own_read hown9
  have hcap9 := own_cap hown9
  simp only [isB_i, isK_i, isP_i, isTup_i, isInt_i, isSl_i, isPtr_i, isCs_i, isStr_i, isFn_i, isIf_i, rd_i, br_t, br_f, orO_s, orO_n, gd_t, bv_add, bv_sub, bv_mul, bv_eql, bv_neq, bv_lss, bv_leq, bv_gtr, bv_geq, bv_quo, bv_rem, bv_shl, bv_shr, bv_seq, bv_sne, bv_ptr, bv_if, bv_map, bv_nf, bv_bool, bv_sl, bv_fn, uv_not, uv_neg, eqV, nilV, nc_ptr, nc_fn, nc_if, Option.map_some, toN, Nat.mul_one, implies_true, true_and, and_true, and_self, List.getElem?_cons_zero, List.getElem?_cons_succ]
  have hF9 := (hf1.trans hf4).trans hf9
  refine br_ndec (fun he => ?_) (fun he => ?_)
  · exact ⟨by rw [decide_eq_false he]; rfl, hF9⟩
  obtain ⟨hrok, h16, h1024, he1⟩ := enc_ok hmsok he
  obtain ⟨ys, hys⟩ : ∃ ys, ys = pack (encBits (fewM ms)) := ⟨_, rfl⟩
  rw [← hys] at he1 h1024
  rw [he1] at hown9 hcap9 ⊢
  have hpos : 0 < ys.length := by rw [hys]; exact encBits_pos _
  have hdec : decodeM ys = (fewM ms, 0) := by rw [hys]; exact dec_enc hrok h16 (by rw [← hys]; exact h1024)
  have hyr : ∀ y ∈ ys, 0 ≤ y ∧ y < 256 := by rw [hys]; exact pack_range _
  refine br_dec (fun h0 => by omega) (fun h0 => ?_)
  rw [dv_ne _ (by omega)]
  simp only [isB_i, isK_i, isP_i, isTup_i, isInt_i, isSl_i, isPtr_i, isCs_i, isStr_i, isFn_i, isIf_i, rd_i, br_t, br_f, orO_s, orO_n, gd_t, bv_add, bv_sub, bv_mul, bv_eql, bv_neq, bv_lss, bv_leq, bv_gtr, bv_geq, bv_quo, bv_rem, bv_shl, bv_shr, bv_seq, bv_sne, bv_ptr, bv_if, bv_map, bv_nf, bv_bool, bv_sl, bv_fn, uv_not, uv_neg, eqV, nilV, nc_ptr, nc_fn, nc_if, Option.map_some, toN, Nat.mul_one, implies_true, true_and, and_true, and_self]
  obtain ⟨a, ha⟩ : ∃ a : Nat, andI .i64 b 65535 = a := ⟨(andI .i64 b 65535).toNat, by have h1 := (andI_le b 65535 (by omega)).1; have h2 : (((65535 : Nat) : Int)) = 65535 := rfl; rw [h2] at h1; omega⟩
  rw [ha]
  have htm : Int.tmod (a : Int) (ys.length : Int) = ((a % ys.length : Nat) : Int) := by rw [Int.tmod_eq_emod_of_nonneg (by omega)]; norm_cast
  rw [htm]
  obtain ⟨r, hr⟩ : ∃ r, r = a % ys.length := ⟨_, rfl⟩
  have hrl : r < ys.length := by rw [hr]; exact Nat.mod_lt _ hpos
  rw [← hr]
  have hby9 : BytesAt w9 p9 ys := BytesAt.of_own hown9
  refine sliceAt_hi (by rw [row25]) row5 (by omega) (by omega) ?_
  simp only [isB_i, isK_i, isP_i, isTup_i, isInt_i, isSl_i, isPtr_i, isCs_i, isStr_i, isFn_i, isIf_i, rd_i, br_t, br_f, orO_s, orO_n, gd_t, bv_add, bv_sub, bv_mul, bv_eql, bv_neq, bv_lss, bv_leq, bv_gtr, bv_geq, bv_quo, bv_rem, bv_shl, bv_shr, bv_seq, bv_sne, bv_ptr, bv_if, bv_map, bv_nf, bv_bool, bv_sl, bv_fn, uv_not, uv_neg, eqV, nilV, nc_ptr, nc_fn, nc_if, Option.map_some, toN, Nat.mul_one, implies_true, true_and, and_true, and_self]
  have htl : (ys.take r).length = r := by rw [List.length_take]; omega
  have hd1 := decode18_c (w := w9) (ys := ys.take r) (c := c9) ((hby9.take r).zero c9) (fun y hy => hyr y (List.mem_of_mem_take hy)) (by omega)
  rw [htl] at hd1
  refine hd1.mono ?_
  have hcut : (decodeM (ys.take r)).2 = 2 := dec_cut (ts := ys.drop r) (ms := fewM ms) (fun e => by have := congrArg List.length e; rw [List.length_drop] at this; simp at this; omega) (by rw [List.take_append_drop]; exact hdec)
  rw [hcut]
  rintro _ w26 ⟨sv, rfl, hown26, hf26⟩
  obtain ⟨p26, c26, rfl, -⟩ := hown26.at
  simp only [isB_i, isK_i, isP_i, isTup_i, isInt_i, isSl_i, isPtr_i, isCs_i, isStr_i, isFn_i, isIf_i, rd_i, br_t, br_f, orO_s, orO_n, gd_t, bv_add, bv_sub, bv_mul, bv_eql, bv_neq, bv_lss, bv_leq, bv_gtr, bv_geq, bv_quo, bv_rem, bv_shl, bv_shr, bv_seq, bv_sne, bv_ptr, bv_if, bv_map, bv_nf, bv_bool, bv_sl, bv_fn, uv_not, uv_neg, eqV, nilV, nc_ptr, nc_fn, nc_if, Option.map_some, toN, Nat.mul_one, implies_true, true_and, and_true, and_self, List.getElem?_cons_zero, List.getElem?_cons_succ]
  refine build_none (by rw [row25]) row5 fun s w36 hs hs36 hf36 => ?_
  obtain ⟨p36, c36, rfl, -⟩ := own_read hs
  simp only [isB_i, isK_i, isP_i, isTup_i, isInt_i, isSl_i, isPtr_i, isCs_i, isStr_i, isFn_i, isIf_i, rd_i, br_t, br_f, orO_s, orO_n, gd_t, bv_add, bv_sub, bv_mul, bv_eql, bv_neq, bv_lss, bv_leq, bv_gtr, bv_geq, bv_quo, bv_rem, bv_shl, bv_shr, bv_seq, bv_sne, bv_ptr, bv_if, bv_map, bv_nf, bv_bool, bv_sl, bv_fn, uv_not, uv_neg, eqV, nilV, nc_ptr, nc_fn, nc_if, Option.map_some, toN, Nat.mul_one, implies_true, true_and, and_true, and_self]
  have hF36 := hf26.trans hf36
  have hby36 := hby9.keep hF36 fun _ _ => id
  refine append_b (by rw [row25]) row5 rfl hs rfl hby36 hf36.size (by simp only [maxLen]; omega) (by omega) fun v41 w41 hv41 hf41 hbk41 => ?_
  obtain ⟨p41, c41, rfl, -⟩ := own_read hv41
  simp only [isB_i, isK_i, isP_i, isTup_i, isInt_i, isSl_i, isPtr_i, isCs_i, isStr_i, isFn_i, isIf_i, rd_i, br_t, br_f, orO_s, orO_n, gd_t, bv_add, bv_sub, bv_mul, bv_eql, bv_neq, bv_lss, bv_leq, bv_gtr, bv_geq, bv_quo, bv_rem, bv_shl, bv_shr, bv_seq, bv_sne, bv_ptr, bv_if, bv_map, bv_nf, bv_bool, bv_sl, bv_fn, uv_not, uv_neg, eqV, nilV, nc_ptr, nc_fn, nc_if, Option.map_some, toN, Nat.mul_one, implies_true, true_and, and_true, and_self, List.nil_append] at hv41 ⊢
  refine append_1 (by rw [row25]) row5 rfl rfl hv41 (by have := hf41.size; have := hf36.size; omega) (by simp only [maxLen]; omega) (by omega) fun v51 w51 hv51 hf51 => ?_
  obtain ⟨p51, c51, rfl, -⟩ := own_read hv51
  simp only [isB_i, isK_i, isP_i, isTup_i, isInt_i, isSl_i, isPtr_i, isCs_i, isStr_i, isFn_i, isIf_i, rd_i, br_t, br_f, orO_s, orO_n, gd_t, bv_add, bv_sub, bv_mul, bv_eql, bv_neq, bv_lss, bv_leq, bv_gtr, bv_geq, bv_quo, bv_rem, bv_shl, bv_shr, bv_seq, bv_sne, bv_ptr, bv_if, bv_map, bv_nf, bv_bool, bv_sl, bv_fn, uv_not, uv_neg, eqV, nilV, nc_ptr, nc_fn, nc_if, Option.map_some, toN, Nat.mul_one, implies_true, true_and, and_true, and_self]
  have hF41 : Fm none' w26 w41 := hf36.trans' hf41 fun i hi e => by have := (own_block hs e).1; omega
  have hF51 : Fm none' w26 w51 := hF41.trans' hf51 fun i hi e => by have := (own_block hv41 e).1; omega
  have hby51 : BytesAt w51 p51 (ys ++ [d]) := BytesAt.of_own (by simpa using hv51)
  have hl2 : (ys ++ [d]).length = 0 + ys.length + 1 := by simp
  have hd2 := decode18_c (w := w51) (ys := ys ++ [d]) (c := c51) hby51 (fun y hy => by
    rcases List.mem_append.1 hy with h | h
    · exact hyr y h
    · simp at h; subst h; exact hd) (by omega)
  rw [hl2] at hd2
  refine hd2.mono ?_
  rw [dec_more (ts := [d]) (by simp) hdec]
  rintro _ w56 ⟨sv, rfl, hown56, hf56⟩
  obtain ⟨p56, c56, rfl, -⟩ := hown56.at
  simp only [isB_i, isK_i, isP_i, isTup_i, isInt_i, isSl_i, isPtr_i, isCs_i, isStr_i, isFn_i, isIf_i, rd_i, br_t, br_f, orO_s, orO_n, gd_t, bv_add, bv_sub, bv_mul, bv_eql, bv_neq, bv_lss, bv_leq, bv_gtr, bv_geq, bv_quo, bv_rem, bv_shl, bv_shr, bv_seq, bv_sne, bv_ptr, bv_if, bv_map, bv_nf, bv_bool, bv_sl, bv_fn, uv_not, uv_neg, eqV, nilV, nc_ptr, nc_fn, nc_if, Option.map_some, toN, Nat.mul_one, implies_true, true_and, and_true, and_self, List.getElem?_cons_zero, List.getElem?_cons_succ, decide_true]
  exact ((hF9.trans hf26).trans hF51).trans hf56
end Go.Proofs.Ytfekkdmnboccfaa
