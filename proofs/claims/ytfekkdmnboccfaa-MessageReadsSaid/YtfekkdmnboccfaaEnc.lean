/- message: the bytes of messages.  Conditions: their fields are in their types' ranges; they may be read; at most a thousand, of at most two thousand bytes each. -/
import Derived.Test.YtfekkdmnboccfaaRight
namespace Go.Proofs.Ytfekkdmnboccfaa
set_option linter.unusedSimpArgs false
set_option linter.unusedVariables false
open Go Go.RowKit VC
theorem BytesAt.keepN {w w' : World} {p : Option Addr} {ys : List Int} {S : Nat → Prop} (h : BytesAt w p ys) (f : Fm S w w') (hp : ∀ ad, p = some ad → ys ≠ [] → ¬ S ad.block) : BytesAt w' p ys := fun j y hj => by
  obtain ⟨ad, e, hc⟩ := h j y hj
  exact ⟨ad, e, f.cell hc (by rw [add_block]; exact hp ad e (ne_of hj))⟩
/-- Messages that may be read from p on, all in blocks below N. -/
def MsgsAt (w : World) (N : Nat) (p : Option Addr) (ms : List Msg) : Prop :=
  ∀ j m, ms[j]? = some m → ∃ ad q cq, p = some ad ∧ ad.block < N ∧ cellsAt w (ad.add (j * 23)) 23 = some (msgC m q cq) ∧ BytesAt w q m.bytes ∧ (∀ ad', q = some ad' → m.bytes ≠ [] → ad'.block < N)
theorem MsgsAt.keep {w w' : World} {N : Nat} {p : Option Addr} {ms : List Msg} {S : Nat → Prop} (h : MsgsAt w N p ms) (f : Fm S w w') (hS : ∀ i, i < N → ¬ S i) : MsgsAt w' N p ms := fun j m hj => by
  obtain ⟨ad, q, cq, e, hb, hc, hq, hqb⟩ := h j m hj
  exact ⟨ad, q, cq, e, hb, f.cells (by rw [add_block]; exact hS _ hb) hc, hq.keepN f fun ad' e' hne => hS _ (hqb ad' e' hne), hqb⟩
theorem MsgsAt.up {w : World} {N N' : Nat} {p : Option Addr} {ms : List Msg} (h : MsgsAt w N p ms) (hN : N ≤ N') : MsgsAt w N' p ms := fun j m hj => by
  obtain ⟨ad, q, cq, e, hb, hc, hq, hqb⟩ := h j m hj
  exact ⟨ad, q, cq, e, by omega, hc, hq, fun ad' e' hne => by have := hqb ad' e' hne; omega⟩
theorem msgC_one {m : Msg} {q : Option Addr} {cq : Nat} : ∀ v ∈ msgC m q cq, v.oneCell' = true := by
  intro v hv
  simp only [msgC, List.mem_cons, List.not_mem_nil, or_false] at hv
  rcases hv with rfl | rfl | rfl | rfl | rfl | rfl | rfl | rfl | rfl | rfl | rfl | rfl | rfl | rfl | rfl | rfl | rfl | rfl | rfl | rfl | rfl | rfl | rfl <;> rfl
def oneBits (m : Msg) : List Int := bitsOf (IntKind.u64.wrap m.kind) 4 ++ fieldBits m
def encBits (ms : List Msg) : List Int := bitsOf (IntKind.u64.wrap ms.length) 5 ++ ms.flatMap oneBits
def encodeM (ms : List Msg) : List Int × Int := if ms.all rightM then (if 16 < ms.length ∨ 1024 < (pack (encBits ms)).length then ([], 5) else (pack (encBits ms), 0)) else ([], 1)
/-- Messages as they may come. -/
structure Msok (ms : List Msg) : Prop where
  ok : ∀ m ∈ ms, Mok m
  len : ∀ m ∈ ms, m.bytes.length ≤ 2000
  many : ms.length ≤ 1000
theorem oneBits_sum {ms : List Msg} (h : ∀ m ∈ ms, m.bytes.length ≤ 2000) : (ms.flatMap oneBits).length ≤ ms.length * 16304 := by
  induction ms with
  | nil => simp
  | cons m ms ih =>
    have h1 := ih fun x hx => h x (List.mem_cons_of_mem _ hx)
    have h2 := h m (by simp)
    have h3 := fieldBits_len m
    rw [List.flatMap_cons, List.length_append, List.length_cons, Nat.succ_mul]
    unfold oneBits at h1 ⊢
    rw [List.length_append, bitsOf_length]
    omega
variable {w : World}
set_option maxRecDepth 20000 in
set_option maxHeartbeats 2000000 in
theorem encode14_c {ms : List Msg} {p : Option Addr} {c N : Nat} (hm : MsgsAt w N p ms) (hN : N ≤ w.heap.size) (hok : Msok ms) :
    callV Try.prog 14 [.slice p ms.length c] w fun v w' => ∃ sv, v = .tuple #[sv, .int .i64 (encodeM ms).2] ∧ w'.ownsRow w.heap.size 5 1 sv (encodeM ms).1.length ((encodeM ms).1.map (Value.int .u8)) ∧ Fm none' w w' := by
  obtain ⟨hok1, hok2, hok3⟩ := hok
  have hsum : ∀ j, (encBits ms).length ≤ 20000000 ∧ (bitsOf (IntKind.u64.wrap (ms.length : Int)) 5 ++ (ms.take j).flatMap oneBits).length ≤ 20000000 := by
    intro j
    have h1 := oneBits_sum hok2
    have h2 := oneBits_sum (ms := ms.take j) fun m hm => hok2 m (List.mem_of_mem_take hm)
    have h3 : (ms.take j).length ≤ ms.length := by rw [List.length_take]; omega
    unfold encBits
    rw [List.length_append, List.length_append, bitsOf_length]
    have h4 : ms.length * 16304 ≤ 1000 * 16304 := Nat.mul_le_mul_right _ hok3
    have h5 : (ms.take j).length * 16304 ≤ 1000 * 16304 := Nat.mul_le_mul_right _ (by omega)
    omega
  refine vc14 p ms.length c w _ ?_
  refine allocC_of fun w1 hb1 hs1 hf1 => ?_
  obtain ⟨A, hA⟩ : ∃ A, A = w.heap.size := ⟨_, rfl⟩
  rw [← hA] at hb1 ⊢
  have hw1 : WrAt w1 w.heap.size A 58 (.bool false) [] none := ⟨.slice none 0 0, hb1, ⟨rfl, .inl ⟨rfl, rfl⟩⟩, rfl, by simp, hf1.size⟩
  refine (put21_c _ 5 (by omega) hw1 (by simp)).mono ?_
  rintro _ w3 ⟨rfl, g3, hw3, hg3, hf3⟩
  have hF3 : Fm none' w w3 := hf1.trans' hf3 (by rintro i hi (e | e); omega; cases e)
  have hnil : ∀ (e : Int) (w' : World), Fm none' w w' → ∃ sv, Value.tuple #[.slice none 0 0, .int .i64 e] = .tuple #[sv, .int .i64 e] ∧ w'.ownsRow w.heap.size 5 1 sv ([] : List Int).length (([] : List Int).map (Value.int .u8)) ∧ Fm none' w w' :=
    fun e w' hf => ⟨_, rfl, ⟨rfl, .inl ⟨rfl, rfl⟩⟩, hf⟩
  have hfr : ∀ (g' : Option Nat), (g' = none ∨ ∃ b, g' = some b ∧ w1.heap.size ≤ b) → ∀ i, g' = some i → w.heap.size < i := by
    rintro g' (e | ⟨b, e, hb⟩) i hi
    · rw [e] at hi; cases hi
    · rw [e] at hi; cases hi; omega
  refine ⟨fun u w' => ∃ (j : Nat) (g' : Option Nat), j ≤ ms.length ∧ u 19 = .int .i64 j ∧ (∀ m ∈ ms.take j, rightM m = true) ∧ WrAt w' w.heap.size A 58 (.bool false) (bitsOf (IntKind.u64.wrap (ms.length : Int)) 5 ++ (ms.take j).flatMap oneBits) g' ∧ (∀ i, g' = some i → w.heap.size < i) ∧ Fm none' w w',
    fun u _ => ms.length - (intOf (u 19)).toNat, ?_, ?_⟩
  · refine ⟨0, g3, by omega, rfl, by simp, ?_, hfr g3 hg3, hF3⟩
    simp only [List.take_zero, List.flatMap_nil, List.append_nil]
    exact hw3
  rintro u w7 ⟨j, g', hj, h19, hright, hw7, hg', hF⟩
  change u 19 = .int .i64 j at h19
  simp only [h19, isB_i, isK_i, isP_i, isTup_i, isInt_i, isSl_i, isPtr_i, isCs_i, isStr_i, isFn_i, isIf_i, rd_i, br_t, br_f, orO_s, orO_n, gd_t, bv_add, bv_sub, bv_mul, bv_eql, bv_neq, bv_lss, bv_leq, bv_gtr, bv_geq, bv_quo, bv_rem, bv_shl, bv_shr, bv_seq, bv_sne, bv_ptr, bv_if, bv_map, bv_nf, bv_bool, bv_sl, bv_fn, uv_not, uv_neg, eqV, nilV, nc_ptr, nc_fn, nc_if, Option.map_some, toN, Nat.mul_one, implies_true, true_and, and_true, and_self]
  have hl7 := hw7.lt
  refine br_dec (fun hjn => ?_) (fun hjn => ?_)
  · obtain ⟨m, hmj⟩ : ∃ m, ms[j]? = some m := ⟨ms[j]'(by omega), by simp⟩
    have hmem : m ∈ ms := List.mem_of_getElem? hmj
    obtain ⟨ad, q, cq, rfl, hadN, hcells, hq, hqN⟩ := (hm.keep hF fun _ _ => id) j m hmj
    simp only [isB_i, isK_i, isP_i, isTup_i, isInt_i, isSl_i, isPtr_i, isCs_i, isStr_i, isFn_i, isIf_i, rd_i, br_t, br_f, orO_s, orO_n, gd_t, bv_add, bv_sub, bv_mul, bv_eql, bv_neq, bv_lss, bv_leq, bv_gtr, bv_geq, bv_quo, bv_rem, bv_shl, bv_shr, bv_seq, bv_sne, bv_ptr, bv_if, bv_map, bv_nf, bv_bool, bv_sl, bv_fn, uv_not, uv_neg, eqV, nilV, nc_ptr, nc_fn, nc_if, Option.map_some, toN, Nat.mul_one, implies_true, true_and, and_true, and_self]
    refine ⟨by omega, rd_of hcells ?_⟩
    refine allocC_of fun w16 hb16 hs16 hf16 => ?_
    refine rd_of (v := ()) rfl ?_
    refine stC_all hb16 rfl msgC_one fun w17 hb17 hf17 => ?_
    obtain ⟨B, hB⟩ : ∃ B, B = w7.heap.size := ⟨_, rfl⟩
    rw [← hB] at hb17 hf17 ⊢
    have hF17 : Fm none' w7 w17 := hf16.trans' hf17 (by rintro i hi rfl; omega)
    refine rd_of (v := msgC m q cq) (cells_all hb17 rfl) ?_
    have hFw17 : Fm none' w w17 := hF.trans hF17
    have hBw : w.heap.size ≤ B := by rw [hB]; exact hF.size
    refine (right16_c (hok1 m hmem) (hq.keep hF17 fun _ _ => id) (fun ad' e hne => by have := hqN ad' e hne; have := hFw17.size; omega) (by have := hok2 m hmem; omega)).mono ?_
    rintro _ w20 ⟨rfl, hf20⟩
    simp only [isB_i, isK_i, isP_i, isTup_i, isInt_i, isSl_i, isPtr_i, isCs_i, isStr_i, isFn_i, isIf_i, rd_i, br_t, br_f, orO_s, orO_n, gd_t, bv_add, bv_sub, bv_mul, bv_eql, bv_neq, bv_lss, bv_leq, bv_gtr, bv_geq, bv_quo, bv_rem, bv_shl, bv_shr, bv_seq, bv_sne, bv_ptr, bv_if, bv_map, bv_nf, bv_bool, bv_sl, bv_fn, uv_not, uv_neg, eqV, nilV, nc_ptr, nc_fn, nc_if, Option.map_some, toN, Nat.mul_one, implies_true, true_and, and_true, and_self]
    have hF20 : Fm none' w w20 := hFw17.trans hf20
    refine br_ndec' (fun hr => ?_) (fun hr => ?_)
    · have : encodeM ms = ([], 1) := by
        unfold encodeM
        rw [if_neg]
        intro h
        rw [List.all_eq_true] at h
        rw [h m hmem] at hr; cases hr
      rw [this, hA]
      exact hnil 1 w20 hF20
    · have hb20 : w20.drew.heap[B]? = some (.cells (msgC m q cq).toArray 40 (0, 0)) := hf20.keep hb17 id
      have hw20 : WrAt w20.drew w.heap.size A 58 (.bool false) (bitsOf (IntKind.u64.wrap (ms.length : Int)) 5 ++ (ms.take j).flatMap oneBits) g' := hw7.keep ((hF17.trans hf20).trans (Fm.drew w20)) id fun _ _ y => y
      have hBA : B ≠ A := by omega
      have hBg : g' ≠ some B := fun e => by have := hl7.2 _ e; omega
      refine ⟨fun w' => w'.heap[B]? = some (.cells (msgC m q cq).toArray 40 (0, 0)), hb20, ?_⟩
      simp only [isB_i, isK_i, isP_i, isTup_i, isInt_i, isSl_i, isPtr_i, isCs_i, isStr_i, isFn_i, isIf_i, rd_i, br_t, br_f, orO_s, orO_n, gd_t, bv_add, bv_sub, bv_mul, bv_eql, bv_neq, bv_lss, bv_leq, bv_gtr, bv_geq, bv_quo, bv_rem, bv_shl, bv_shr, bv_seq, bv_sne, bv_ptr, bv_if, bv_map, bv_nf, bv_bool, bv_sl, bv_fn, uv_not, uv_neg, eqV, nilV, nc_ptr, nc_fn, nc_if, Option.map_some, toN, Nat.mul_one, implies_true, true_and, and_true, and_self]
      refine rd_of (v := .int .i64 m.kind) (cellOf hb20 rfl) ⟨fun w' hw => rd_of (cellOf hw rfl) rfl, ?_⟩
      simp only [isB_i, isK_i, isP_i, isTup_i, isInt_i, isSl_i, isPtr_i, isCs_i, isStr_i, isFn_i, isIf_i, rd_i, br_t, br_f, orO_s, orO_n, gd_t, bv_add, bv_sub, bv_mul, bv_eql, bv_neq, bv_lss, bv_leq, bv_gtr, bv_geq, bv_quo, bv_rem, bv_shl, bv_shr, bv_seq, bv_sne, bv_ptr, bv_if, bv_map, bv_nf, bv_bool, bv_sl, bv_fn, uv_not, uv_neg, eqV, nilV, nc_ptr, nc_fn, nc_if, Option.map_some, toN, Nat.mul_one, implies_true, true_and, and_true, and_self]
      have hlen1 := (hsum j).2
      refine (put21_c _ 4 (by omega) hw20 (by omega)).mono ?_
      rintro _ w39 ⟨rfl, g39, hw39, hg39, hf39⟩
      have hb39 := hf39.keep hb20 (by rintro (e | e); exact hBA e; exact hBg e)
      have hs20 : w7.heap.size ≤ w20.heap.size := (hF17.trans hf20).size
      have hB20 := lt_of_blk hb20
      have hBg39 : g39 ≠ some B := apart_of hB20 hBg hg39
      have hg39w : ∀ i, g39 = some i → w.heap.size < i := by
        rcases hg39 with e | ⟨b, e, hb⟩
        · rw [e]; exact hg'
        · intro i hi
          rw [e] at hi; cases hi
          have : w20.drew.heap.size = w20.heap.size := rfl
          omega
      have hF39 : Fm none' w w39 := (hF20.trans (Fm.drew w20)).trans' hf39 (by rintro i hi (e | e); omega; have := hg' _ e; omega)
      refine ⟨hb39, ?_⟩
      refine (fields22_c (m := m) (p := q) (cp := cq) hw39 hb39 (hok1 m hmem) hBA hBg39 (fun i y hi => ?_) (fun ad' e hne => by have := hqN ad' e hne; have := hF39.size; omega) (by rw [List.length_append, bitsOf_length]; have := hok2 m hmem; omega)).mono ?_
      · obtain ⟨ad', e, hc⟩ := (hq.keep (hF17.trans hf20) fun _ _ => id) i y hi
        have hb := hqN ad' e (ne_of hi)
        refine ⟨ad', e, by omega, fun e' => by have := hg39w _ e'; omega, ?_⟩
        exact hf39.cell (w := w20.drew) hc (by rw [add_block]; rintro (e' | e'); omega; have := hg' _ e'; omega)
      rintro _ w41 ⟨rfl, _, g41, hw41, hg41, hf41⟩
      simp only [isB_i, isK_i, isP_i, isTup_i, isInt_i, isSl_i, isPtr_i, isCs_i, isStr_i, isFn_i, isIf_i, rd_i, br_t, br_f, orO_s, orO_n, gd_t, bv_add, bv_sub, bv_mul, bv_eql, bv_neq, bv_lss, bv_leq, bv_gtr, bv_geq, bv_quo, bv_rem, bv_shl, bv_shr, bv_seq, bv_sne, bv_ptr, bv_if, bv_map, bv_nf, bv_bool, bv_sl, bv_fn, uv_not, uv_neg, eqV, nilV, nc_ptr, nc_fn, nc_if, Option.map_some, toN, Nat.mul_one, implies_true, true_and, and_true, and_self]
      rw [w64 (by omega)]
      have hbad : fieldBad m = false := by
        unfold rightM at hr
        simp only [Bool.and_eq_true, Bool.not_eq_true'] at hr
        exact hr.1.2
      rw [hbad] at hw41
      refine ⟨⟨j + 1, g41, by omega, rfl, ?_, ?_, ?_, ?_⟩, ?_⟩
      · rw [List.take_add_one, hmj]
        intro x hx
        rcases List.mem_append.1 hx with hx | hx
        · exact hright x hx
        · simp at hx; subst hx; exact hr
      · rw [List.take_add_one, hmj, Option.toList_some, List.flatMap_append, List.flatMap_cons, List.flatMap_nil, List.append_nil]
        unfold oneBits at hw41 ⊢
        simp only [List.append_assoc] at hw41 ⊢
        exact hw41
      · rcases hg41 with e | ⟨b, e, hb⟩
        · rw [e]; exact hg39w
        · intro i hi
          rw [e] at hi; cases hi
          have := hF39.size; have := lt_of_blk hb39; omega
      · exact hF39.trans' hf41 (by rintro i hi (e | e); omega; have := hg39w _ e; omega)
      · show ms.length - ((j : Int) + 1).toNat < ms.length - (j : Int).toNat; omega
  · have : j = ms.length := by omega
    subst this
    rw [List.take_length] at hw7 hright
    have hall : ms.all rightM = true := List.all_eq_true.2 hright
    refine (bytes23_c hw7 (by have := (hsum 0).1; unfold encBits at this; omega)).mono ?_
    rintro v w46 ⟨hv, -, hf46⟩
    obtain ⟨p46, c46, rfl, -⟩ := own_read hv
    simp only [isB_i, isK_i, isP_i, isTup_i, isInt_i, isSl_i, isPtr_i, isCs_i, isStr_i, isFn_i, isIf_i, rd_i, br_t, br_f, orO_s, orO_n, gd_t, bv_add, bv_sub, bv_mul, bv_eql, bv_neq, bv_lss, bv_leq, bv_gtr, bv_geq, bv_quo, bv_rem, bv_shl, bv_shr, bv_seq, bv_sne, bv_ptr, bv_if, bv_map, bv_nf, bv_bool, bv_sl, bv_fn, uv_not, uv_neg, eqV, nilV, nc_ptr, nc_fn, nc_if, Option.map_some, toN, Nat.mul_one, implies_true, true_and, and_true, and_self]
    have hF46 := hF.trans hf46
    refine br_dec (fun h16 => ?_) (fun h16 => ?_)
    · have : encodeM ms = ([], 5) := by
        unfold encodeM
        rw [if_pos hall, if_pos (.inl (by omega))]
      rw [this, hA]
      exact hnil 5 w46 hF46
    · refine br_dec (fun h10 => ?_) (fun h10 => ?_)
      · have : encodeM ms = ([], 5) := by
          unfold encodeM
          rw [if_pos hall, if_pos (.inr (by unfold encBits; omega))]
        rw [this, hA]
        exact hnil 5 w46 hF46
      · have : encodeM ms = (pack (encBits ms), 0) := by
          unfold encodeM
          rw [if_pos hall, if_neg]
          unfold encBits
          omega
        rw [this, hA]
        exact ⟨_, rfl, hv, hF46⟩
end Go.Proofs.Ytfekkdmnboccfaa
