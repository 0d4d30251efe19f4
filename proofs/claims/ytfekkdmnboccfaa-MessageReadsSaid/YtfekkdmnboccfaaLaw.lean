/- message's laws: rows of messages; are two the same; the first few.  Conditions: the messages may be read. -/
import Derived.Test.YtfekkdmnboccfaaSam27
namespace Go.Proofs.Ytfekkdmnboccfaa
set_option linter.unusedSimpArgs false
set_option linter.unusedVariables false
open Go Go.RowKit VC
theorem add0 (ad : Addr) (j : Nat) : (ad.add 0).add j = ad.add j := by unfold Addr.add; split <;> simp_all
theorem add_add (ad : Addr) (i j : Nat) : (ad.add i).add j = ad.add (i + j) := by
  unfold Addr.add; repeat' split
  all_goals first | (simp_all; done) | (simp_all [Nat.add_assoc]; done) | (exfalso; omega)
/-- Messages in a row that is owned from base on; their bytes lie in blocks below N. -/
def RowMsgs (w : World) (base N : Nat) (sv : Value) (ms : List Msg) : Prop :=
  ∃ qs : List (Option Addr × Nat), qs.length = ms.length ∧ w.ownsRow base 40 23 sv ms.length ((ms.zip qs).flatMap fun x => msgC x.1 x.2.1 x.2.2) ∧
    ∀ (j : Nat) (m : Msg) (q : Option Addr × Nat), ms[j]? = some m → qs[j]? = some q → BytesAt w q.1 m.bytes ∧ ∀ ad, q.1 = some ad → m.bytes ≠ [] → ad.block < N
theorem flat_get {α : Type} {f : α → List Value} {k : Nat} (hf : ∀ x, (f x).length = k) : ∀ (l : List α) (j i : Nat) (x : α), l[j]? = some x → i < k → (l.flatMap f)[j * k + i]? = (f x)[i]? := by
  intro l
  induction l with
  | nil => intro j i x h; simp at h
  | cons y l ih =>
    intro j i x h hi
    rw [List.flatMap_cons]
    cases j with
    | zero =>
      simp at h; subst h
      rw [List.getElem?_append_left (by rw [hf]; omega)]; simp
    | succ j =>
      rw [List.getElem?_append_right (by rw [hf, Nat.succ_mul]; omega), hf, show (j + 1) * k + i - k = j * k + i by rw [Nat.succ_mul]; omega]
      exact ih j i x (by simpa using h) hi
theorem cellsAt_of {w : World} {a : Addr} : ∀ {l : List Value}, (∀ j v, l[j]? = some v → w.cell? (a.add j) = some v) → cellsAt w a l.length = some l := by
  intro l h
  have key : ∀ n, n ≤ l.length → cellsAt w a n = some (l.take n) := by
    intro n
    induction n with
    | zero => intro _; rfl
    | succ n ih =>
      intro hn
      have hg : l[n]? = some (l[n]'(by omega)) := by simp
      simp only [cellsAt, ih (by omega), h n _ hg, Option.map_some, Option.bind_some]
      rw [List.take_add_one, hg]; rfl
  rw [key l.length (Nat.le_refl _), List.take_length]
theorem RowMsgs.at {w : World} {base N : Nat} {p : Option Addr} {n c : Nat} {ms : List Msg} (h : RowMsgs w base N (.slice p n c) ms) (hN : N ≤ w.heap.size) : n = ms.length ∧ MsgsAt w w.heap.size p ms := by
  obtain ⟨qs, hl, ho, hb⟩ := h
  have hsl := own_readS ho
  obtain ⟨p', cp, e, hlen, hr⟩ := hsl
  cases e
  refine ⟨rfl, fun j m hj => ?_⟩
  have hjl := (List.getElem?_eq_some_iff.1 hj).1
  obtain ⟨q, hq⟩ : ∃ q, qs[j]? = some q := ⟨qs[j]'(by omega), by simp⟩
  have hz : (ms.zip qs)[j]? = some (m, q) := by rw [List.getElem?_zip_eq_some]; exact ⟨hj, hq⟩
  have hget : ∀ i v, (msgC m q.1 q.2)[i]? = some v → ((ms.zip qs).flatMap fun x => msgC x.1 x.2.1 x.2.2)[j * 23 + i]? = some v := fun i v hv => by
    have hi : i < 23 := (List.getElem?_eq_some_iff.1 hv).1
    rw [flat_get (k := 23) (fun _ => rfl) _ j i (m, q) hz hi]; exact hv
  obtain ⟨hby, hbN⟩ := hb j m q hj hq
  obtain ⟨g, rfl, hg, hgo, hc0⟩ := hr (j * 23) _ (hget 0 _ rfl)
  refine ⟨_, q.1, q.2, rfl, by obtain ⟨_, cur, hcc⟩ := own_block ho hgo; exact lt_of_blk hcc, ?_, hby, fun ad e hne => by have := hbN ad e hne; omega⟩
  have := cellsAt_of (w := w) (a := (⟨g, 0, none⟩ : Addr).add (j * 23)) (l := msgC m q.1 q.2) (fun i v hv => by
    obtain ⟨g', e, _, _, hc⟩ := hr (j * 23 + i) v (hget i v hv)
    cases e
    rw [addr_add, addr_add, Nat.zero_add]; exact hc)
  exact this
theorem OwnMsgs.at {w : World} {base : Nat} {sv : Value} {ms : List Msg} (h : OwnMsgs w base sv ms) : ∃ p c, sv = .slice p ms.length c ∧ MsgsAt w w.heap.size p ms := by
  obtain ⟨qs, hl, ho, hb⟩ := h
  have ho' := ho
  obtain ⟨p, cp, rfl, -, -⟩ := own_readS ho'
  refine ⟨p, cp, rfl, (RowMsgs.at (base := base) (N := w.heap.size) ⟨qs, hl, ho, fun j m q hj hq => ⟨BytesAt.of_own (hb j m q hj hq), fun ad e _ => ?_⟩⟩ (Nat.le_refl _)).2⟩
  have h5 := hb j m q hj hq
  rcases h5.2 with h0 | ⟨g, cap, cur, hv, hg, hgb, _⟩
  · rw [e] at h0; cases h0.1
  · rw [e] at hv; cases hv; exact lt_of_blk hgb
theorem RowMsgs.nil (w : World) (base N : Nat) : RowMsgs w base N (.slice none 0 0) [] := ⟨[], rfl, ⟨rfl, .inl ⟨rfl, rfl⟩⟩, fun j m q h => by simp at h⟩
variable {w : World}
set_option maxRecDepth 20000 in
theorem same20_c {xs bs : List Msg} {p q : Option Addr} {cp cq N N' : Nat} (ha : MsgsAt w N p xs) (hb : MsgsAt w N' q bs) (hra : ∀ m ∈ xs, ∀ y ∈ m.bytes, 0 ≤ y ∧ y < 256) (hrb : ∀ m ∈ bs, ∀ y ∈ m.bytes, 0 ≤ y ∧ y < 256) (hl : xs.length ≤ 1000000000) :
    callV Try.prog 20 [.slice p xs.length cp, .slice q bs.length cq] w fun v w' => v = .bool (decide (xs = bs)) ∧ Fm none' w w' := by
  refine vc20 p xs.length cp q bs.length cq w _ ?_
  refine br_ndec (fun hn => ?_) (fun hn => ?_)
  · refine ⟨?_, Fm.refl _ _⟩
    rw [decide_eq_false]
    rintro rfl; exact hn rfl
  refine ⟨fun u w' => ∃ j : Nat, j ≤ xs.length ∧ u 5 = .int .i64 j ∧ xs.take j = bs.take j ∧ Fm none' w w', fun u _ => xs.length - (intOf (u 5)).toNat, ⟨0, by omega, rfl, rfl, Fm.refl _ _⟩, ?_⟩
  rintro u w3 ⟨j, hj, h5, ht, hF⟩
  change u 5 = .int .i64 j at h5
  simp only [h5, isB_i, isK_i, isP_i, isTup_i, isInt_i, isSl_i, isPtr_i, isCs_i, isStr_i, isFn_i, isIf_i, rd_i, br_t, br_f, orO_s, orO_n, gd_t, bv_add, bv_sub, bv_mul, bv_eql, bv_neq, bv_lss, bv_leq, bv_gtr, bv_geq, bv_quo, bv_rem, bv_shl, bv_shr, bv_seq, bv_sne, bv_ptr, bv_if, bv_map, bv_nf, bv_bool, bv_sl, bv_fn, uv_not, uv_neg, eqV, nilV, nc_ptr, nc_fn, nc_if, Option.map_some, toN, Nat.mul_one, implies_true, true_and, and_true, and_self]
  have hll : xs.length = bs.length := by omega
  refine br_dec (fun hjn => ?_) (fun hjn => ?_)
  · obtain ⟨m, hm⟩ : ∃ m, xs[j]? = some m := ⟨xs[j]'(by omega), by simp⟩
    obtain ⟨m', hm'⟩ : ∃ m', bs[j]? = some m' := ⟨bs[j]'(by omega), by simp⟩
    have hFd : Fm none' w w3.drew := hF.trans (Fm.drew w3)
    obtain ⟨ad, q1, c1, rfl, hN1, hc1, hb1, hq1⟩ := (ha.keep hFd fun _ _ => id) j m hm
    obtain ⟨ad', q2, c2, rfl, hN2, hc2, hb2, hq2⟩ := (hb.keep hFd fun _ _ => id) j m' hm'
    refine ⟨fun w' => cellsAt w' (ad.add (j * 23)) 23 = some (msgC m q1 c1) ∧ cellsAt w' (ad'.add (j * 23)) 23 = some (msgC m' q2 c2) ∧ Fm none' w3.drew w', ⟨hc1, hc2, Fm.refl _ _⟩, ?_⟩
    simp only [isB_i, isK_i, isP_i, isTup_i, isInt_i, isSl_i, isPtr_i, isCs_i, isStr_i, isFn_i, isIf_i, rd_i, br_t, br_f, orO_s, orO_n, gd_t, bv_add, bv_sub, bv_mul, bv_eql, bv_neq, bv_lss, bv_leq, bv_gtr, bv_geq, bv_quo, bv_rem, bv_shl, bv_shr, bv_seq, bv_sne, bv_ptr, bv_if, bv_map, bv_nf, bv_bool, bv_sl, bv_fn, uv_not, uv_neg, eqV, nilV, nc_ptr, nc_fn, nc_if, Option.map_some, toN, Nat.mul_one, implies_true, true_and, and_true, and_self]
    refine ⟨by omega, fun _ _ => by omega, rd_of hc1 ⟨fun w' hw => rd_of hw.1 rfl, ?_⟩⟩
    refine ⟨by omega, fun _ _ => by omega, rd_of hc2 ⟨fun w' hw => rd_of hw.2.1 rfl, ?_⟩⟩
    refine (same27_c hb1 hb2 (hra m (List.mem_of_getElem? hm)) (hrb m' (List.mem_of_getElem? hm'))).mono ?_
    rintro _ w34 ⟨rfl, hf34⟩
    simp only [isB_i, isK_i, isP_i, isTup_i, isInt_i, isSl_i, isPtr_i, isCs_i, isStr_i, isFn_i, isIf_i, rd_i, br_t, br_f, orO_s, orO_n, gd_t, bv_add, bv_sub, bv_mul, bv_eql, bv_neq, bv_lss, bv_leq, bv_gtr, bv_geq, bv_quo, bv_rem, bv_shl, bv_shr, bv_seq, bv_sne, bv_ptr, bv_if, bv_map, bv_nf, bv_bool, bv_sl, bv_fn, uv_not, uv_neg, eqV, nilV, nc_ptr, nc_fn, nc_if, Option.map_some, toN, Nat.mul_one, implies_true, true_and, and_true, and_self]
    refine ⟨⟨hf34.cells id hc1, hf34.cells id hc2, hf34⟩, ?_⟩
    refine br_ndec (fun he => ?_) (fun he => ?_)
    · refine ⟨?_, hFd.trans hf34⟩
      rw [decide_eq_false]
      rintro rfl
      rw [hm] at hm'; cases hm'; exact he rfl
    · subst he
      rw [w64 (by omega)]
      refine ⟨⟨j + 1, by omega, rfl, ?_, hFd.trans hf34⟩, ?_⟩
      · rw [List.take_add_one, List.take_add_one, hm, hm', ht]
      · show xs.length - ((j : Int) + 1).toNat < xs.length - (j : Int).toNat; omega
  · have : j = xs.length := by omega
    subst this
    rw [List.take_length, hll, List.take_length] at ht
    refine ⟨?_, hF⟩
    rw [decide_eq_true ht]
def cut (k : Nat) (m : Msg) : Msg := { m with bytes := m.bytes.take k }
def fewM (ms : List Msg) : List Msg := (ms.take 20).map (cut 1100)
theorem msgC_inj {m m' : Msg} {q q' : Option Addr} {c c' : Nat} (h : msgC m q c = msgC m' q' c') : q = q' ∧ c = c' := by
  simp only [msgC, List.cons.injEq, Value.slice.injEq] at h
  exact ⟨h.2.2.2.2.2.2.2.2.2.2.2.2.2.2.2.2.2.2.2.2.2.2.1.1, h.2.2.2.2.2.2.2.2.2.2.2.2.2.2.2.2.2.2.2.2.2.2.1.2.2⟩
theorem BytesAt.take {p : Option Addr} {ys : List Int} (h : BytesAt w p ys) (k : Nat) : BytesAt w p (ys.take k) := fun j y hj => h j y (by
  rw [List.getElem?_take] at hj
  split at hj
  · exact hj
  · cases hj)
theorem BytesAt.zero {p : Option Addr} {ys : List Int} (h : BytesAt w p ys) (c : Nat) : BytesAt w (if c = 0 then p else p.map (·.add 0)) ys := fun j y hj => by
  obtain ⟨ad, rfl, hc⟩ := h j y hj
  split
  · exact ⟨ad, rfl, hc⟩
  · exact ⟨_, rfl, by rw [add0]; exact hc⟩
/-- The slices of the messages' bytes have room for these. -/
def Caps (w : World) (p : Option Addr) (ms : List Msg) : Prop := ∀ (j : Nat) (m : Msg) q cq ad, ms[j]? = some m → p = some ad → cellsAt w (ad.add (j * 23)) 23 = some (msgC m q cq) → m.bytes.length ≤ cq
theorem cut_cells (m : Msg) (q q' : Option Addr) (cq cq' : Nat) : (msgC m q cq).toArray.setIfInBounds 22 (.slice q' (m.bytes.take 1100).length cq') = (msgC (cut 1100 m) q' cq').toArray := rfl
set_option maxRecDepth 20000 in
set_option maxHeartbeats 1000000 in
theorem few13_c {ms : List Msg} {p : Option Addr} {c N : Nat} (hm : MsgsAt w N p ms) (hcap : Caps w p ms) (hN : N ≤ w.heap.size) :
    callV Try.prog 13 [.slice p ms.length c] w fun v w' => RowMsgs w' w.heap.size N v (fewM ms) ∧ Fm none' w w' := by
  refine vc13 p ms.length c w _ ?_
  refine ⟨fun u w' => ∃ (j : Nat) (sv : Value), j ≤ ms.length ∧ j ≤ 20 ∧ u 3 = sv ∧ u 4 = .int .i64 j ∧ RowMsgs w' w.heap.size N sv ((ms.take j).map (cut 1100)) ∧ Fm none' w w', fun u _ => 20 - (intOf (u 4)).toNat, ⟨0, _, by omega, by omega, rfl, rfl, RowMsgs.nil _ _ _, Fm.refl _ _⟩, ?_⟩
  rintro u w3 ⟨j, sv, hj, hj20, h3, h4, hrow, hF⟩
  change u 3 = sv at h3
  change u 4 = .int .i64 j at h4
  have hrow' := hrow
  obtain ⟨qs, hql, hown, hq⟩ := hrow
  obtain ⟨p3, c3, rfl, -, -⟩ := own_readS hown
  simp only [h3, h4, isB_i, isK_i, isP_i, isTup_i, isInt_i, isSl_i, isPtr_i, isCs_i, isStr_i, isFn_i, isIf_i, rd_i, br_t, br_f, orO_s, orO_n, gd_t, bv_add, bv_sub, bv_mul, bv_eql, bv_neq, bv_lss, bv_leq, bv_gtr, bv_geq, bv_quo, bv_rem, bv_shl, bv_shr, bv_seq, bv_sne, bv_ptr, bv_if, bv_map, bv_nf, bv_bool, bv_sl, bv_fn, uv_not, uv_neg, eqV, nilV, nc_ptr, nc_fn, nc_if, Option.map_some, toN, Nat.mul_one, implies_true, true_and, and_true, and_self]
  refine br_dec (fun hjn => ?_) (fun hjn => ?_)
  · refine br_dec (fun hj2 => ?_) (fun hj2 => ?_)
    · obtain ⟨m, hmj⟩ : ∃ m, ms[j]? = some m := ⟨ms[j]'(by omega), by simp⟩
      have hmm : m ∈ ms := List.mem_of_getElem? hmj
      obtain ⟨ad, q, cq, rfl, hadN, hcells0, -, -⟩ := hm j m hmj
      obtain ⟨ad', q', cq', e, -, hcells, hby, hqN⟩ := (hm.keep hF fun _ _ => id) j m hmj
      cases e
      have hcc : cellsAt w3 (ad.add (j * 23)) 23 = some (msgC m q cq) := hF.cells id hcells0
      rw [hcc] at hcells
      obtain ⟨rfl, rfl⟩ := msgC_inj (Option.some.inj hcells)
      have hle := hcap j m q cq ad hmj rfl hcells0
      simp only [isB_i, isK_i, isP_i, isTup_i, isInt_i, isSl_i, isPtr_i, isCs_i, isStr_i, isFn_i, isIf_i, rd_i, br_t, br_f, orO_s, orO_n, gd_t, bv_add, bv_sub, bv_mul, bv_eql, bv_neq, bv_lss, bv_leq, bv_gtr, bv_geq, bv_quo, bv_rem, bv_shl, bv_shr, bv_seq, bv_sne, bv_ptr, bv_if, bv_map, bv_nf, bv_bool, bv_sl, bv_fn, uv_not, uv_neg, eqV, nilV, nc_ptr, nc_fn, nc_if, Option.map_some, toN, Nat.mul_one, implies_true, true_and, and_true, and_self]
      refine ⟨by omega, rd_of hcc ?_⟩
      refine allocC_of fun w11 hb11 hs11 hf11 => ?_
      refine rd_of (v := ()) rfl ?_
      refine stC_all hb11 rfl msgC_one fun w12 hb12 hf12 => ?_
      obtain ⟨B, hB⟩ : ∃ B, B = w3.heap.size := ⟨_, rfl⟩
      rw [← hB] at hb12 hf12 ⊢
      have hF12 : Fm none' w3 w12 := hf11.trans' hf12 (by rintro i hi rfl; omega)
      refine rd_of (v := .slice q m.bytes.length cq) (cellOf hb12 rfl) ?_
      simp only [isB_i, isK_i, isP_i, isTup_i, isInt_i, isSl_i, isPtr_i, isCs_i, isStr_i, isFn_i, isIf_i, rd_i, br_t, br_f, orO_s, orO_n, gd_t, bv_add, bv_sub, bv_mul, bv_eql, bv_neq, bv_lss, bv_leq, bv_gtr, bv_geq, bv_quo, bv_rem, bv_shl, bv_shr, bv_seq, bv_sne, bv_ptr, bv_if, bv_map, bv_nf, bv_bool, bv_sl, bv_fn, uv_not, uv_neg, eqV, nilV, nc_ptr, nc_fn, nc_if, Option.map_some, toN, Nat.mul_one, implies_true, true_and, and_true, and_self]
      refine rd_of (v := .slice q m.bytes.length cq) (cellOf hb12 rfl) ?_
      simp only [isB_i, isK_i, isP_i, isTup_i, isInt_i, isSl_i, isPtr_i, isCs_i, isStr_i, isFn_i, isIf_i, rd_i, br_t, br_f, orO_s, orO_n, gd_t, bv_add, bv_sub, bv_mul, bv_eql, bv_neq, bv_lss, bv_leq, bv_gtr, bv_geq, bv_quo, bv_rem, bv_shl, bv_shr, bv_seq, bv_sne, bv_ptr, bv_if, bv_map, bv_nf, bv_bool, bv_sl, bv_fn, uv_not, uv_neg, eqV, nilV, nc_ptr, nc_fn, nc_if, Option.map_some, toN, Nat.mul_one, implies_true, true_and, and_true, and_self]
      have hmin : min (m.bytes.length : Int) 1100 = ((min m.bytes.length 1100 : Nat) : Int) := by omega
      rw [hmin]
      refine sliceAt_hi (by rw [row25]) row5 (by omega) (by omega) ?_
      simp only [isB_i, isK_i, isP_i, isTup_i, isInt_i, isSl_i, isPtr_i, isCs_i, isStr_i, isFn_i, isIf_i, rd_i, br_t, br_f, orO_s, orO_n, gd_t, bv_add, bv_sub, bv_mul, bv_eql, bv_neq, bv_lss, bv_leq, bv_gtr, bv_geq, bv_quo, bv_rem, bv_shl, bv_shr, bv_seq, bv_sne, bv_ptr, bv_if, bv_map, bv_nf, bv_bool, bv_sl, bv_fn, uv_not, uv_neg, eqV, nilV, nc_ptr, nc_fn, nc_if, Option.map_some, toN, Nat.mul_one, implies_true, true_and, and_true, and_self]
      refine stC_one hb12 (by simp [msgC]) rfl fun w26 hb26 hf26 => ?_
      rw [show min m.bytes.length 1100 = (m.bytes.take 1100).length by rw [List.length_take]; omega, cut_cells] at hb26
      obtain ⟨q1, hq1⟩ : ∃ q1, q1 = (if cq = 0 then q else q.map (·.add 0)) := ⟨_, rfl⟩
      rw [← hq1] at hb26
      refine rd_of (v := msgC (cut 1100 m) q1 cq) (cells_all hb26 rfl) ?_
      have hF26 : Fm none' w3 w26 := hF12.trans' hf26 (by rintro i hi rfl; omega)
      have hs26 := hF26.size
      have hs3 := hF.size
      have hlen : ((ms.take j).map (cut 1100)).length = j := by simp; omega
      refine append_S (by rw [row22]) row40 rfl (by omega) (by omega) rfl msgC_one (hF26.owns hown fun _ _ => id) (by omega) (by rw [hlen]; simp only [maxLen]; omega) (by rw [hlen]; omega) fun v37 w37 hv37 hf37 hblk => ?_
      obtain ⟨p37, c37, rfl, -⟩ := own_readS hv37
      simp only [isB_i, isK_i, isP_i, isTup_i, isInt_i, isSl_i, isPtr_i, isCs_i, isStr_i, isFn_i, isIf_i, rd_i, br_t, br_f, orO_s, orO_n, gd_t, bv_add, bv_sub, bv_mul, bv_eql, bv_neq, bv_lss, bv_leq, bv_gtr, bv_geq, bv_quo, bv_rem, bv_shl, bv_shr, bv_seq, bv_sne, bv_ptr, bv_if, bv_map, bv_nf, bv_bool, bv_sl, bv_fn, uv_not, uv_neg, eqV, nilV, nc_ptr, nc_fn, nc_if, Option.map_some, toN, Nat.mul_one, implies_true, true_and, and_true, and_self]
      rw [w64 (by omega)]
      have hF37 : Fm none' w w37 := (hF.trans hF26).trans' hf37 (fun i hi e => by have := (own_block hown e).1; omega)
      have htk : (ms.take (j + 1)).map (cut 1100) = (ms.take j).map (cut 1100) ++ [cut 1100 m] := by rw [List.take_add_one, hmj]; simp
      refine ⟨⟨j + 1, _, by omega, by omega, rfl, rfl, ?_, hF37⟩, ?_⟩
      · rw [htk]
        refine ⟨qs ++ [(q1, cq)], by simp [hql], ?_, fun i m' q' hi hq' => ?_⟩
        · rw [List.zip_append hql.symm, List.flatMap_append]
          have : [(cut 1100 m, (q1, cq))].flatMap (fun x : Msg × Option Addr × Nat => msgC x.1 x.2.1 x.2.2) = msgC (cut 1100 m) q1 cq := by simp
          show w37.ownsRow _ _ _ (.slice p37 _ c37) _ (_ ++ [(cut 1100 m, (q1, cq))].flatMap _)
          rw [this, show ((ms.take j).map (cut 1100) ++ [cut 1100 m]).length = ((ms.take j).map (cut 1100)).length + 1 by simp]
          exact hv37
        · have hk : ∀ {q : Option Addr} {ys : List Int}, (∀ ad, q = some ad → ys ≠ [] → ad.block < N) → BytesAt w3 q ys → BytesAt w37 q ys := fun hqb h => (h.keep hF26 fun _ _ => id).keepN hf37 fun ad e hne hs => by
            have := (own_block hown hs).1; have := hqb ad e hne; omega
          by_cases hil : i < ((ms.take j).map (cut 1100)).length
          · rw [List.getElem?_append_left hil] at hi
            rw [List.getElem?_append_left (by omega)] at hq'
            exact ⟨hk (hq i m' q' hi hq').2 (hq i m' q' hi hq').1, (hq i m' q' hi hq').2⟩
          · have hi1 : i = ((ms.take j).map (cut 1100)).length := by
              have := (List.getElem?_eq_some_iff.1 hi).1
              rw [List.length_append] at this; simp only [List.length_cons, List.length_nil] at this; omega
            subst hi1
            rw [List.getElem?_append_right (by omega), Nat.sub_self] at hi
            rw [List.getElem?_append_right (by omega), hql, Nat.sub_self] at hq'
            cases hi; cases hq'
            have hqb : ∀ ad, q1 = some ad → m.bytes.take 1100 ≠ [] → ad.block < N := by
              intro ad e hne
              have hne : m.bytes ≠ [] := fun h => hne (by rw [h]; rfl)
              rw [hq1] at e
              split at e
              · exact hqN ad e hne
              · cases q with
                | none => cases e
                | some a0 => cases e; rw [add_block]; exact hqN a0 rfl hne
            refine ⟨hk hqb ?_, hqb⟩
            show BytesAt w3 q1 (m.bytes.take 1100)
            rw [hq1]
            exact (hby.take 1100).zero cq
      · show 20 - ((j : Int) + 1).toNat < 20 - (j : Int).toNat; omega
    · have : j = 20 := by omega
      subst this
      exact ⟨hrow', hF⟩
  · have : ms.take j = ms.take 20 := by rw [List.take_of_length_le (by omega), List.take_of_length_le (by omega)]
    unfold fewM
    rw [← this]
    exact ⟨hrow', hF⟩
end Go.Proofs.Ytfekkdmnboccfaa
