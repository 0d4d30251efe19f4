/- the reference: a message out of bits.  Conditions: the reader lies as it is said to lie. -/
import Derived.Test.YtfekkdmnboccfaaRRd
import Derived.Test.YtfekkdmnboccfaaD3
namespace Go.Proofs.Ytfekkdmnboccfaa
set_option linter.unusedSimpArgs false
set_option linter.unusedVariables false
open Go Go.RowKit VC
variable {w : World} {R : Nat} {s : RS}
/-- The next message, as the program has it. -/
def prM (s : RS) : Msg × RS := ((rdFields (IntKind.i64.wrap (rdW 4 s).1) (rdW 4 s).2).1, rdF (known (blank (IntKind.i64.wrap (rdW 4 s).1))) (rdFields (IntKind.i64.wrap (rdW 4 s).1) (rdW 4 s).2).2)
theorem rdB_stop {s : RS} {n : Nat} {acc : List Int} (h : s.e ≠ 0) : rdB n s acc = (acc, s) := by
  cases n with
  | zero => rfl
  | succ n => rw [rdB, if_neg h]
theorem rdB_e0 (n : Nat) (s : RS) (acc : List Int) (h : (rdB n s acc).2.e = 0) : s.e = 0 := by
  by_cases e : s.e = 0
  · exact e
  · rw [rdB_stop e] at h; exact h
/-- The message lies in block O, its bytes are its own. -/
def MsO (w0 w : World) (R O : Nat) (k : Int) (s1 : RS) (w' : World) : Prop :=
  ∃ m q c, w'.heap[O]? = some (.cells (msgC m q c).toArray 40 (0, 0)) ∧ RefAt w' R (rdF (known (blank k)) (rdFields k s1).2) ∧ ((rdF (known (blank k)) (rdFields k s1).2).e = 0 → m = (rdFields k s1).1) ∧
    w'.ownsRow w0.heap.size 5 1 (.slice q m.bytes.length c) m.bytes.length (m.bytes.map (Value.int .u8)) ∧ (∀ y ∈ m.bytes, 0 ≤ y ∧ y < 256) ∧ Fm (fun i => i = R ∨ w0.heap.size < i) w w'
theorem own_nil (w : World) (base : Nat) : w.ownsRow base 5 1 (.slice none ([] : List Int).length 0) ([] : List Int).length (([] : List Int).map (Value.int .u8)) := ⟨rfl, .inl ⟨rfl, rfl⟩⟩
set_option maxRecDepth 20000 in
set_option maxHeartbeats 8000000 in
theorem message36_c (h : RefAt w R s) (he0 : s.e = 0) : callV Try.prog 36 [.pointer (some ⟨R, 0, none⟩)] w fun v w' =>
    ∃ m q c, v = .agg (msgC m q c).toArray ∧ RefAt w' R (prM s).2 ∧ ((prM s).2.e = 0 → m = (prM s).1) ∧ w'.ownsRow w.heap.size 5 1 (.slice q m.bytes.length c) m.bytes.length (m.bytes.map (Value.int .u8)) ∧ (∀ y ∈ m.bytes, 0 ≤ y ∧ y < 256) ∧ Fm (fun i => i = R) w w' := by
  obtain ⟨rem0, hR0, -⟩ := id h
  have hRl := lt_of_blk hR0
  refine vc36 ⟨R, 0, none⟩ w _ ?_
  refine allocC_of fun w1 hb1 hs1 hf1 => allocC_of fun w3 hb3 hs3 hf3 => ?_
  obtain ⟨A, hA⟩ : ∃ A, A = w.heap.size := ⟨_, rfl⟩
  obtain ⟨O, hO⟩ : ∃ O, O = w1.heap.size := ⟨_, rfl⟩
  have hA3 := hf3.keep hb1 id
  change w3.heap[w.heap.size]? = some (.cells (msgC (blank 0) none 0).toArray 40 (0, 0)) at hA3
  rw [← hA] at hA3 ⊢
  rw [← hO] at hb3 ⊢
  refine stC_all hb3 rfl (by intro v hv; exact msgC_one (m := blank 0) (q := none) (cq := 0) v hv) fun w4 hb4 hf4 => ?_
  change w4.heap[O]? = some (.cells (msgC (blank 0) none 0).toArray 40 (0, 0)) at hb4
  have h4 : RefAt w4 R s := ((h.keep hf1 id).keep hf3 id).keep hf4 (by omega)
  have hA4 := hf4.keep hA3 (by omega)
  have hF4 : Fm (fun i => i = R) w w4 := (hf1.trans hf3).none.trans' hf4 (by rintro i hi rfl; omega)
  have hRO : R ≠ O := by omega
  have hs4 := hf4.size
  refine (number34_c (k := 4) (by omega) h4).mono ?_
  rintro _ w6 ⟨k, rfl, hkr, hkx, h6, hf6⟩
  simp only [isB_i, isK_i, isP_i, isTup_i, isInt_i, isSl_i, isPtr_i, isCs_i, isStr_i, isFn_i, isIf_i, rd_i, br_t, br_f, orO_s, orO_n, gd_t, bv_add, bv_sub, bv_mul, bv_eql, bv_neq, bv_lss, bv_leq, bv_gtr, bv_geq, bv_quo, bv_rem, bv_shl, bv_shr, bv_seq, bv_sne, bv_ptr, bv_if, bv_map, bv_nf, bv_bool, bv_sl, bv_fn, uv_not, uv_neg, eqV, nilV, nc_ptr, nc_fn, nc_if, Option.map_some, toN, Nat.mul_one, implies_true, true_and, and_true, and_self]
  obtain ⟨s1, hs1'⟩ : ∃ s1, s1 = (rdW 4 s).2 := ⟨_, rfl⟩
  have hk := hkx he0
  have hwk : IntKind.i64.wrap k = k := w64 (by omega)
  have hpr : prM s = ((rdFields k s1).1, rdF (known (blank k)) (rdFields k s1).2) := by unfold prM; rw [← hk, hwk, hs1']
  rw [← hs1'] at h6
  rw [hpr]
  have hb6 := hf6.keep hb4 (by omega)
  refine stC_one hb6 (by simp [msgC]) rfl fun w8 hb8 hf8 => ?_
  change w8.heap[O]? = some (.cells (msgC (blank k) none 0).toArray 40 (0, 0)) at hb8
  have h8 := h6.keep hf8 hRO
  have hA8 := hf8.keep (hf6.keep hA4 (by omega)) (by omega)
  have hF8 : Fm (fun i => i = R) w w8 := (hF4.trans hf6).trans' hf8 (by rintro i hi rfl; omega)
  refine ⟨fun _ w' => RefAt w' R (rdF (known (blank k)) s1) ∧ Fm (fun i => i = R) w8 w', ?_, ?_⟩
  · have go : ∀ ok : Bool, ok = known (blank k) → callV Try.prog 35 [.pointer (some ⟨R, 0, none⟩), .bool ok] w8 fun _ w' => RefAt w' R (rdF (known (blank k)) s1) ∧ Fm (fun i => i = R) w8 w' := by
      intro ok hok
      refine (must35_c (fun _ => hok) h8).mono ?_
      rintro _ w' ⟨-, h1, h2⟩
      exact ⟨h1, h2⟩
    have hkn : known (blank k) = (decide (1 ≤ k) && decide (k ≤ 9)) := rfl
    refine rd_of (v := .int .i64 k) (cellOf hb8 rfl) ?_
    simp only [isB_i, isK_i, isP_i, isTup_i, isInt_i, isSl_i, isPtr_i, isCs_i, isStr_i, isFn_i, isIf_i, rd_i, br_t, br_f, orO_s, orO_n, gd_t, bv_add, bv_sub, bv_mul, bv_eql, bv_neq, bv_lss, bv_leq, bv_gtr, bv_geq, bv_quo, bv_rem, bv_shl, bv_shr, bv_seq, bv_sne, bv_ptr, bv_if, bv_map, bv_nf, bv_bool, bv_sl, bv_fn, uv_not, uv_neg, eqV, nilV, nc_ptr, nc_fn, nc_if, Option.map_some, toN, Nat.mul_one, implies_true, true_and, and_true, and_self]
    refine br_dec (fun h1 => ?_) (fun h1 => go false (by rw [hkn, decide_eq_false h1]; rfl))
    refine rd_of (v := .int .i64 k) (cellOf hb8 rfl) ?_
    simp only [isB_i, isK_i, isP_i, isTup_i, isInt_i, isSl_i, isPtr_i, isCs_i, isStr_i, isFn_i, isIf_i, rd_i, br_t, br_f, orO_s, orO_n, gd_t, bv_add, bv_sub, bv_mul, bv_eql, bv_neq, bv_lss, bv_leq, bv_gtr, bv_geq, bv_quo, bv_rem, bv_shl, bv_shr, bv_seq, bv_sne, bv_ptr, bv_if, bv_map, bv_nf, bv_bool, bv_sl, bv_fn, uv_not, uv_neg, eqV, nilV, nc_ptr, nc_fn, nc_if, Option.map_some, toN, Nat.mul_one, implies_true, true_and, and_true, and_self]
    exact go _ (by rw [hkn, decide_eq_true h1]; rfl)
  rintro - w20 ⟨h20, hf20⟩
  have hb20 := hf20.keep hb8 (by omega)
  have hA20 := hf20.keep hA8 (by omega)
  have hs20 := hf20.size
  have hF20 := hF8.trans hf20
  refine ⟨fun _ w' => MsO w w20 R O k s1 w', ?_, ?_⟩
  · refine rd_of (v := .int .i64 k) (cellOf hb20 rfl) ?_
    simp only [isB_i, isK_i, isP_i, isTup_i, isInt_i, isSl_i, isPtr_i, isCs_i, isStr_i, isFn_i, isIf_i, rd_i, br_t, br_f, orO_s, orO_n, gd_t, bv_add, bv_sub, bv_mul, bv_eql, bv_neq, bv_lss, bv_leq, bv_gtr, bv_geq, bv_quo, bv_rem, bv_shl, bv_shr, bv_seq, bv_sne, bv_ptr, bv_if, bv_map, bv_nf, bv_bool, bv_sl, bv_fn, uv_not, uv_neg, eqV, nilV, nc_ptr, nc_fn, nc_if, Option.map_some, toN, Nat.mul_one, implies_true, true_and, and_true, and_self]
    -- of a kind that is known
    have kn : 1 ≤ k → k ≤ 9 → rdF (known (blank k)) s1 = s1 ∧ ∀ x : RS, rdF (known (blank k)) x = x := fun a b => by
      have : known (blank k) = true := known_iff.2 ⟨a, b⟩
      rw [this]; exact ⟨rdF_true _, rdF_true⟩
    have plain : ∀ {w' : World} {m : Msg} {r : Msg × RS}, 1 ≤ k → k ≤ 9 → rdFields k s1 = r → m.bytes = [] → w'.heap[O]? = some (.cells (msgC m none 0).toArray 40 (0, 0)) → RefAt w' R r.2 → (r.2.e = 0 → m = r.1) → Fm (fun i => i = R ∨ w.heap.size < i) w20 w' → MsO w w20 R O k s1 w' := by
      rintro w' m r a b rfl hb ho hr hm hf
      refine ⟨m, none, 0, ho, ?_, ?_, by rw [hb]; exact own_nil _ _, by rw [hb]; simp, hf⟩
      · rw [(kn a b).2]; exact hr
      · rw [(kn a b).2]; exact hm
    have nO : ∀ {w1 w' : World}, Fm (fun i => i = R) w1 w' → Fm (fun i => i = R ∨ w.heap.size < i) w1 w' := fun f => f.mono fun i _ e => .inl e
    have nX : ∀ {w1 w' : World}, Fm (fun i => i = O) w1 w' → Fm (fun i => i = R ∨ w.heap.size < i) w1 w' := fun f => f.mono fun i _ e => .inr (by omega)
    have kO : ∀ {w w' : World} {o : Obj}, Fm (fun i => i = R) w w' → w.heap[O]? = some o → w'.heap[O]? = some o := fun f h => f.keep h (by omega)
    have kR : ∀ {w w' : World} {s : RS}, Fm (fun i => i = O) w w' → RefAt w R s → RefAt w' R s := fun f h => h.keep f hRO
    refine br_dec (fun k2 => ?_) (fun k2 => ?_)
    · subst k2
      have h20' := h20
      rw [(kn (by omega) (by omega)).1] at h20'
      obtain ⟨⟨a, t1⟩, ha⟩ : ∃ r, rdW 16 s1 = r := ⟨_, rfl⟩
      obtain ⟨⟨b, t2⟩, hb⟩ : ∃ r, rdW 2 t1 = r := ⟨_, rfl⟩
      obtain ⟨⟨x, t3⟩, hx⟩ : ∃ r, rdS 8 t2 = r := ⟨_, rfl⟩
      obtain ⟨⟨y, t4⟩, hy⟩ : ∃ r, rdS 8 t3 = r := ⟨_, rfl⟩
      obtain ⟨⟨t, t5⟩, ht⟩ : ∃ r, rdW 3 t4 = r := ⟨_, rfl⟩
      have hr : rdFields 2 s1 = ({ blank 2 with cq := IntKind.u16.wrap a, cb := IntKind.u8.wrap b, cdx := IntKind.i8.wrap x, cdy := IntKind.i8.wrap y, ct := IntKind.i64.wrap (IntKind.i64.wrap t + 1) }, t5) := by
        show rdCmd s1 = _
        unfold rdCmd
        simp only [ha, hb, hx, hy, ht]
      have b1 := fun e => (good_W 16).back s1 (by rw [ha]; exact e)
      have b2 := fun e => (good_W 2).back t1 (by rw [hb]; exact e)
      have b3 := fun e => (good_S 8).back t2 (by rw [hx]; exact e)
      have b4 := fun e => (good_S 8).back t3 (by rw [hy]; exact e)
      have b5 := fun e => (good_W 3).back t4 (by rw [ht]; exact e)
      refine (number34_c (k := 16) (by omega) h20').mono ?_
      rintro _ w26 ⟨a', rfl, _, va, r1, f1⟩
      rw [ha] at va r1
      simp only [isB_i, isK_i, isP_i, isTup_i, isInt_i, isSl_i, isPtr_i, isCs_i, isStr_i, isFn_i, isIf_i, rd_i, br_t, br_f, orO_s, orO_n, gd_t, bv_add, bv_sub, bv_mul, bv_eql, bv_neq, bv_lss, bv_leq, bv_gtr, bv_geq, bv_quo, bv_rem, bv_shl, bv_shr, bv_seq, bv_sne, bv_ptr, bv_if, bv_map, bv_nf, bv_bool, bv_sl, bv_fn, uv_not, uv_neg, eqV, nilV, nc_ptr, nc_fn, nc_if, Option.map_some, toN, Nat.mul_one, implies_true, true_and, and_true, and_self]
      refine stC_one (kO f1 hb20) (by simp [msgC]) rfl fun w28 o2 g2 => ?_
      refine (number34_c (k := 2) (by omega) (kR g2 r1)).mono ?_
      rintro _ w30 ⟨b', rfl, _, vb, r2, f2⟩
      rw [hb] at vb r2
      simp only [isB_i, isK_i, isP_i, isTup_i, isInt_i, isSl_i, isPtr_i, isCs_i, isStr_i, isFn_i, isIf_i, rd_i, br_t, br_f, orO_s, orO_n, gd_t, bv_add, bv_sub, bv_mul, bv_eql, bv_neq, bv_lss, bv_leq, bv_gtr, bv_geq, bv_quo, bv_rem, bv_shl, bv_shr, bv_seq, bv_sne, bv_ptr, bv_if, bv_map, bv_nf, bv_bool, bv_sl, bv_fn, uv_not, uv_neg, eqV, nilV, nc_ptr, nc_fn, nc_if, Option.map_some, toN, Nat.mul_one, implies_true, true_and, and_true, and_self]
      refine stC_one (kO f2 o2) (by simp [msgC]) rfl fun w32 o3 g3 => ?_
      refine (signed56_c (k := 8) (.inl rfl) (kR g3 r2)).mono ?_
      rintro _ w34 ⟨x', rfl, _, vx, r3, f3⟩
      rw [hx] at vx r3
      simp only [isB_i, isK_i, isP_i, isTup_i, isInt_i, isSl_i, isPtr_i, isCs_i, isStr_i, isFn_i, isIf_i, rd_i, br_t, br_f, orO_s, orO_n, gd_t, bv_add, bv_sub, bv_mul, bv_eql, bv_neq, bv_lss, bv_leq, bv_gtr, bv_geq, bv_quo, bv_rem, bv_shl, bv_shr, bv_seq, bv_sne, bv_ptr, bv_if, bv_map, bv_nf, bv_bool, bv_sl, bv_fn, uv_not, uv_neg, eqV, nilV, nc_ptr, nc_fn, nc_if, Option.map_some, toN, Nat.mul_one, implies_true, true_and, and_true, and_self]
      refine stC_one (kO f3 o3) (by simp [msgC]) rfl fun w36 o4 g4 => ?_
      refine (signed56_c (k := 8) (.inl rfl) (kR g4 r3)).mono ?_
      rintro _ w38 ⟨y', rfl, _, vy, r4, f4⟩
      rw [hy] at vy r4
      simp only [isB_i, isK_i, isP_i, isTup_i, isInt_i, isSl_i, isPtr_i, isCs_i, isStr_i, isFn_i, isIf_i, rd_i, br_t, br_f, orO_s, orO_n, gd_t, bv_add, bv_sub, bv_mul, bv_eql, bv_neq, bv_lss, bv_leq, bv_gtr, bv_geq, bv_quo, bv_rem, bv_shl, bv_shr, bv_seq, bv_sne, bv_ptr, bv_if, bv_map, bv_nf, bv_bool, bv_sl, bv_fn, uv_not, uv_neg, eqV, nilV, nc_ptr, nc_fn, nc_if, Option.map_some, toN, Nat.mul_one, implies_true, true_and, and_true, and_self]
      refine stC_one (kO f4 o4) (by simp [msgC]) rfl fun w40 o5 g5 => ?_
      refine (number34_c (k := 3) (by omega) (kR g5 r4)).mono ?_
      rintro _ w42 ⟨t', rfl, ht', vt, r5, f5⟩
      rw [ht] at vt r5
      simp only [isB_i, isK_i, isP_i, isTup_i, isInt_i, isSl_i, isPtr_i, isCs_i, isStr_i, isFn_i, isIf_i, rd_i, br_t, br_f, orO_s, orO_n, gd_t, bv_add, bv_sub, bv_mul, bv_eql, bv_neq, bv_lss, bv_leq, bv_gtr, bv_geq, bv_quo, bv_rem, bv_shl, bv_shr, bv_seq, bv_sne, bv_ptr, bv_if, bv_map, bv_nf, bv_bool, bv_sl, bv_fn, uv_not, uv_neg, eqV, nilV, nc_ptr, nc_fn, nc_if, Option.map_some, toN, Nat.mul_one, implies_true, true_and, and_true, and_self]
      refine stC_one (kO f5 o5) (by simp [msgC]) rfl fun w44 o6 g6 => ?_
      refine plain (m := { blank 2 with cq := IntKind.u16.wrap a', cb := IntKind.u8.wrap b', cdx := IntKind.i8.wrap x', cdy := IntKind.i8.wrap y', ct := IntKind.i64.wrap (t' + 1) }) (by omega) (by omega) hr rfl o6 (kR g6 r5) (fun e => ?_) (((((((((nO f1).trans (nX g2)).trans (nO f2)).trans (nX g3)).trans (nO f3)).trans (nX g4)).trans (nO f4)).trans (nX g5)).trans (nO f5) |>.trans (nX g6))
      have e4 := b5 e
      have e3 := b4 e4
      have e2 := b3 e3
      have e1 := b2 e2
      have ht2 : IntKind.i64.wrap t' = t' := w64 (by omega)
      dsimp only at va vb vx vy vt
      have vt' := vt e4
      subst vt'
      rw [va (b1 e1), vb e1, vx e2, vy e3, ht2]
    refine br_dec (fun k3 => ?_) (fun k3 => ?_)
    · subst k3
      have h20' := h20
      rw [(kn (by omega) (by omega)).1] at h20'
      obtain ⟨⟨a, t1⟩, ha⟩ : ∃ r, rdW 16 s1 = r := ⟨_, rfl⟩
      obtain ⟨⟨b, t2⟩, hb⟩ : ∃ r, rdW 1 t1 = r := ⟨_, rfl⟩
      obtain ⟨⟨x, t3⟩, hx⟩ : ∃ r, stepV 18 65536 t2 = r := ⟨_, rfl⟩
      obtain ⟨⟨y, t4⟩, hy⟩ : ∃ r, stepV 18 65536 t3 = r := ⟨_, rfl⟩
      obtain ⟨⟨z, t5⟩, hz⟩ : ∃ r, stepV 18 65536 t4 = r := ⟨_, rfl⟩
      have hr : rdFields 3 s1 = ({ blank 3 with prov := IntKind.u16.wrap a, shot := IntKind.i64.wrap b, d0 := x, d1 := y, d2 := z }, t5) := by
        show rdFire s1 = _
        unfold rdFire
        simp only [ha, hb, hx, hy, hz]
      have b1 := fun e => (good_W 16).back s1 (by rw [ha]; exact e)
      have b2 := fun e => (good_W 1).back t1 (by rw [hb]; exact e)
      have b3 := fun e => (good_V 18 65536).back t2 (by rw [hx]; exact e)
      have b4 := fun e => (good_V 18 65536).back t3 (by rw [hy]; exact e)
      have b5 := fun e => (good_V 18 65536).back t4 (by rw [hz]; exact e)
      refine (number34_c (k := 16) (by omega) h20').mono ?_
      rintro _ w26 ⟨a', rfl, _, va, r1, f1⟩
      rw [ha] at va r1
      simp only [isB_i, isK_i, isP_i, isTup_i, isInt_i, isSl_i, isPtr_i, isCs_i, isStr_i, isFn_i, isIf_i, rd_i, br_t, br_f, orO_s, orO_n, gd_t, bv_add, bv_sub, bv_mul, bv_eql, bv_neq, bv_lss, bv_leq, bv_gtr, bv_geq, bv_quo, bv_rem, bv_shl, bv_shr, bv_seq, bv_sne, bv_ptr, bv_if, bv_map, bv_nf, bv_bool, bv_sl, bv_fn, uv_not, uv_neg, eqV, nilV, nc_ptr, nc_fn, nc_if, Option.map_some, toN, Nat.mul_one, implies_true, true_and, and_true, and_self]
      refine stC_one (kO f1 hb20) (by simp [msgC]) rfl fun w28 o2 g2 => ?_
      refine (number34_c (k := 1) (by omega) (kR g2 r1)).mono ?_
      rintro _ w30 ⟨b', rfl, hb', vb, r2, f2⟩
      rw [hb] at vb r2
      simp only [isB_i, isK_i, isP_i, isTup_i, isInt_i, isSl_i, isPtr_i, isCs_i, isStr_i, isFn_i, isIf_i, rd_i, br_t, br_f, orO_s, orO_n, gd_t, bv_add, bv_sub, bv_mul, bv_eql, bv_neq, bv_lss, bv_leq, bv_gtr, bv_geq, bv_quo, bv_rem, bv_shl, bv_shr, bv_seq, bv_sne, bv_ptr, bv_if, bv_map, bv_nf, bv_bool, bv_sl, bv_fn, uv_not, uv_neg, eqV, nilV, nc_ptr, nc_fn, nc_if, Option.map_some, toN, Nat.mul_one, implies_true, true_and, and_true, and_self]
      refine stC_one (kO f2 o2) (by simp [msgC]) rfl fun w32 o3 g3 => ?_
      refine (vec57_c (k := 18) (d := 65536) (by omega) (by unfold I64; omega) (kR g3 r2)).mono ?_
      rintro _ w34 ⟨x', y', z', rfl, vx, vy, vz, r3, f3⟩
      rw [hx] at vx vy vz r3
      dsimp only at vx vy vz r3
      rw [hy] at vy vz r3
      dsimp only at vy vz r3
      rw [hz] at vz r3
      dsimp only at vz r3
      refine rd_of (v := ()) rfl ?_
      refine stC_at (vs := [.int .i64 x', .int .i64 y', .int .i64 z']) (kO f3 o3) (by simp [msgC]) (by intro v hv; simp at hv; rcases hv with rfl | rfl | rfl <;> rfl) fun w36 o4 g4 => ?_
      have hb2 : IntKind.i64.wrap b' = b' := w64 (by omega)
      refine plain (m := { blank 3 with prov := IntKind.u16.wrap a', shot := b', d0 := x', d1 := y', d2 := z' }) (by omega) (by omega) hr rfl o4 (kR g4 r3) (fun e => ?_) ((((((nO f1).trans (nX g2)).trans (nO f2)).trans (nX g3)).trans (nO f3)).trans (nX g4))
      have e4 := b5 e
      have e3 := b4 e4
      have e2 := b3 e3
      have e1 := b2 e2
      dsimp only at va vb
      have vb' := vb e1
      subst vb'
      rw [va (b1 e1), hb2, vx e2, vy e3, vz e4]
    refine br_dec (fun k5 => ?_) (fun k5 => ?_)
    · subst k5
      have h20' := h20
      rw [(kn (by omega) (by omega)).1] at h20'
      have hr : rdFields 5 s1 = ({ blank 5 with id := (rdId s1).1 }, (rdId s1).2) := rfl
      refine (id58_c h20').mono ?_
      rintro _ w26 ⟨a', rfl, _, va, r1, f1⟩
      simp only [isB_i, isK_i, isP_i, isTup_i, isInt_i, isSl_i, isPtr_i, isCs_i, isStr_i, isFn_i, isIf_i, rd_i, br_t, br_f, orO_s, orO_n, gd_t, bv_add, bv_sub, bv_mul, bv_eql, bv_neq, bv_lss, bv_leq, bv_gtr, bv_geq, bv_quo, bv_rem, bv_shl, bv_shr, bv_seq, bv_sne, bv_ptr, bv_if, bv_map, bv_nf, bv_bool, bv_sl, bv_fn, uv_not, uv_neg, eqV, nilV, nc_ptr, nc_fn, nc_if, Option.map_some, toN, Nat.mul_one, implies_true, true_and, and_true, and_self]
      refine stC_one (kO f1 hb20) (by simp [msgC]) rfl fun w28 o2 g2 => ?_
      refine plain (m := { blank 5 with id := a' }) (by omega) (by omega) hr rfl o2 (kR g2 r1) (fun e => ?_) ((nO f1).trans (nX g2))
      rw [va (good_Id.back _ e)]
    refine br_dec (fun k6 => ?_) (fun k6 => ?_)
    · subst k6
      have h20' := h20
      rw [(kn (by omega) (by omega)).1] at h20'
      obtain ⟨⟨a, t1⟩, ha⟩ : ∃ r, rdW 16 s1 = r := ⟨_, rfl⟩
      obtain ⟨⟨x, t3⟩, hx⟩ : ∃ r, stepV 32 (-1) t1 = r := ⟨_, rfl⟩
      obtain ⟨⟨y, t4⟩, hy⟩ : ∃ r, stepV 32 (-1) t3 = r := ⟨_, rfl⟩
      obtain ⟨⟨z, t5⟩, hz⟩ : ∃ r, stepV 32 (-1) t4 = r := ⟨_, rfl⟩
      obtain ⟨⟨x2, t6⟩, hx2⟩ : ∃ r, stepV 32 (-1) t5 = r := ⟨_, rfl⟩
      obtain ⟨⟨y2, t7⟩, hy2⟩ : ∃ r, stepV 32 (-1) t6 = r := ⟨_, rfl⟩
      obtain ⟨⟨z2, t8⟩, hz2⟩ : ∃ r, stepV 32 (-1) t7 = r := ⟨_, rfl⟩
      have hr : rdFields 6 s1 = ({ blank 6 with seq := IntKind.u16.wrap a, p0 := x, p1 := y, p2 := z, v0 := x2, v1 := y2, v2 := z2 }, t8) := by
        show rdMoved s1 = _
        unfold rdMoved
        simp only [ha, hx, hy, hz, hx2, hy2, hz2]
      have gv := good_V 32 (-1)
      have b1 := fun e => (good_W 16).back s1 (by rw [ha]; exact e)
      have b3 := fun e => gv.back t1 (by rw [hx]; exact e)
      have b4 := fun e => gv.back t3 (by rw [hy]; exact e)
      have b5 := fun e => gv.back t4 (by rw [hz]; exact e)
      have b6 := fun e => gv.back t5 (by rw [hx2]; exact e)
      have b7 := fun e => gv.back t6 (by rw [hy2]; exact e)
      have b8 := fun e => gv.back t7 (by rw [hz2]; exact e)
      refine (number34_c (k := 16) (by omega) h20').mono ?_
      rintro _ w26 ⟨a', rfl, _, va, r1, f1⟩
      rw [ha] at va r1
      simp only [isB_i, isK_i, isP_i, isTup_i, isInt_i, isSl_i, isPtr_i, isCs_i, isStr_i, isFn_i, isIf_i, rd_i, br_t, br_f, orO_s, orO_n, gd_t, bv_add, bv_sub, bv_mul, bv_eql, bv_neq, bv_lss, bv_leq, bv_gtr, bv_geq, bv_quo, bv_rem, bv_shl, bv_shr, bv_seq, bv_sne, bv_ptr, bv_if, bv_map, bv_nf, bv_bool, bv_sl, bv_fn, uv_not, uv_neg, eqV, nilV, nc_ptr, nc_fn, nc_if, Option.map_some, toN, Nat.mul_one, implies_true, true_and, and_true, and_self]
      refine stC_one (kO f1 hb20) (by simp [msgC]) rfl fun w28 o2 g2 => ?_
      refine (vec57_c (k := 32) (d := -1) (by omega) (by unfold I64; omega) (kR g2 r1)).mono ?_
      rintro _ w34 ⟨x', y', z', rfl, vx, vy, vz, r3, f3⟩
      rw [hx] at vx vy vz r3
      dsimp only at vx vy vz r3
      rw [hy] at vy vz r3
      dsimp only at vy vz r3
      rw [hz] at vz r3
      dsimp only at vz r3
      refine rd_of (v := ()) rfl ?_
      refine stC_at (vs := [.int .i64 x', .int .i64 y', .int .i64 z']) (kO f3 o2) (by simp [msgC]) (by intro v hv; simp at hv; rcases hv with rfl | rfl | rfl <;> rfl) fun w36 o4 g4 => ?_
      refine (vec57_c (k := 32) (d := -1) (by omega) (by unfold I64; omega) (kR g4 r3)).mono ?_
      rintro _ w38 ⟨x'', y'', z'', rfl, ux, uy, uz, r4, f4⟩
      rw [hx2] at ux uy uz r4
      dsimp only at ux uy uz r4
      rw [hy2] at uy uz r4
      dsimp only at uy uz r4
      rw [hz2] at uz r4
      dsimp only at uz r4
      refine rd_of (v := ()) rfl ?_
      refine stC_at (vs := [.int .i64 x'', .int .i64 y'', .int .i64 z'']) (kO f4 o4) (by simp [msgC]) (by intro v hv; simp at hv; rcases hv with rfl | rfl | rfl <;> rfl) fun w40 o5 g5 => ?_
      refine plain (m := { blank 6 with seq := IntKind.u16.wrap a', p0 := x', p1 := y', p2 := z', v0 := x'', v1 := y'', v2 := z'' }) (by omega) (by omega) hr rfl o5 (kR g5 r4) (fun e => ?_) ((((((nO f1).trans (nX g2)).trans (nO f3)).trans (nX g4)).trans (nO f4)).trans (nX g5))
      have e7 := b8 e
      have e6 := b7 e7
      have e5 := b6 e6
      have e4 := b5 e5
      have e3 := b4 e4
      have e1 := b3 e3
      rw [va (b1 e1), vx e1, vy e3, vz e4, ux e5, uy e6, uz e7]
    refine br_dec (fun k7 => ?_) (fun k7 => ?_)
    · subst k7
      have h20' := h20
      rw [(kn (by omega) (by omega)).1] at h20'
      obtain ⟨⟨a, t1⟩, ha⟩ : ∃ r, rdW 16 s1 = r := ⟨_, rfl⟩
      have hr : rdFields 7 s1 = ({ blank 7 with prov := IntKind.u16.wrap a, id := (rdId t1).1 }, (rdId t1).2) := by
        show rdBound s1 = _
        unfold rdBound
        simp only [ha]
      have b1 := fun e => (good_W 16).back s1 (by rw [ha]; exact e)
      refine (number34_c (k := 16) (by omega) h20').mono ?_
      rintro _ w26 ⟨a', rfl, _, va, r1, f1⟩
      rw [ha] at va r1
      simp only [isB_i, isK_i, isP_i, isTup_i, isInt_i, isSl_i, isPtr_i, isCs_i, isStr_i, isFn_i, isIf_i, rd_i, br_t, br_f, orO_s, orO_n, gd_t, bv_add, bv_sub, bv_mul, bv_eql, bv_neq, bv_lss, bv_leq, bv_gtr, bv_geq, bv_quo, bv_rem, bv_shl, bv_shr, bv_seq, bv_sne, bv_ptr, bv_if, bv_map, bv_nf, bv_bool, bv_sl, bv_fn, uv_not, uv_neg, eqV, nilV, nc_ptr, nc_fn, nc_if, Option.map_some, toN, Nat.mul_one, implies_true, true_and, and_true, and_self]
      refine stC_one (kO f1 hb20) (by simp [msgC]) rfl fun w28 o2 g2 => ?_
      refine (id58_c (kR g2 r1)).mono ?_
      rintro _ w30 ⟨b', rfl, _, vb, r2, f2⟩
      simp only [isB_i, isK_i, isP_i, isTup_i, isInt_i, isSl_i, isPtr_i, isCs_i, isStr_i, isFn_i, isIf_i, rd_i, br_t, br_f, orO_s, orO_n, gd_t, bv_add, bv_sub, bv_mul, bv_eql, bv_neq, bv_lss, bv_leq, bv_gtr, bv_geq, bv_quo, bv_rem, bv_shl, bv_shr, bv_seq, bv_sne, bv_ptr, bv_if, bv_map, bv_nf, bv_bool, bv_sl, bv_fn, uv_not, uv_neg, eqV, nilV, nc_ptr, nc_fn, nc_if, Option.map_some, toN, Nat.mul_one, implies_true, true_and, and_true, and_self]
      refine stC_one (kO f2 o2) (by simp [msgC]) rfl fun w32 o3 g3 => ?_
      refine plain (m := { blank 7 with prov := IntKind.u16.wrap a', id := b' }) (by omega) (by omega) hr rfl o3 (kR g3 r2) (fun e => ?_) ((((nO f1).trans (nX g2)).trans (nO f2)).trans (nX g3))
      have e1 := good_Id.back _ e
      rw [va (b1 e1), vb e1]
    refine br_dec (fun k8 => ?_) (fun k8 => ?_)
    · subst k8
      have h20' := h20
      rw [(kn (by omega) (by omega)).1] at h20'
      obtain ⟨⟨a, t1⟩, ha⟩ : ∃ r, rdW 16 s1 = r := ⟨_, rfl⟩
      obtain ⟨⟨b, t2⟩, hb⟩ : ∃ r, rdW 4 t1 = r := ⟨_, rfl⟩
      have hr : rdFields 8 s1 = ({ blank 8 with prov := IntKind.u16.wrap a, why := IntKind.i64.wrap b }, rdF (decide (1 ≤ IntKind.i64.wrap b) && decide (IntKind.i64.wrap b ≤ 10)) t2) := by
        show rdDenied s1 = _
        unfold rdDenied
        simp only [ha, hb]
      have b1 := fun e => (good_W 16).back s1 (by rw [ha]; exact e)
      have b2 := fun e => (good_W 4).back t1 (by rw [hb]; exact e)
      refine (number34_c (k := 16) (by omega) h20').mono ?_
      rintro _ w26 ⟨a', rfl, _, va, r1, f1⟩
      rw [ha] at va r1
      simp only [isB_i, isK_i, isP_i, isTup_i, isInt_i, isSl_i, isPtr_i, isCs_i, isStr_i, isFn_i, isIf_i, rd_i, br_t, br_f, orO_s, orO_n, gd_t, bv_add, bv_sub, bv_mul, bv_eql, bv_neq, bv_lss, bv_leq, bv_gtr, bv_geq, bv_quo, bv_rem, bv_shl, bv_shr, bv_seq, bv_sne, bv_ptr, bv_if, bv_map, bv_nf, bv_bool, bv_sl, bv_fn, uv_not, uv_neg, eqV, nilV, nc_ptr, nc_fn, nc_if, Option.map_some, toN, Nat.mul_one, implies_true, true_and, and_true, and_self]
      refine stC_one (kO f1 hb20) (by simp [msgC]) rfl fun w28 o2 g2 => ?_
      refine (number34_c (k := 4) (by omega) (kR g2 r1)).mono ?_
      rintro _ w30 ⟨b', rfl, hb', vb, r2, f2⟩
      rw [hb] at vb r2
      simp only [isB_i, isK_i, isP_i, isTup_i, isInt_i, isSl_i, isPtr_i, isCs_i, isStr_i, isFn_i, isIf_i, rd_i, br_t, br_f, orO_s, orO_n, gd_t, bv_add, bv_sub, bv_mul, bv_eql, bv_neq, bv_lss, bv_leq, bv_gtr, bv_geq, bv_quo, bv_rem, bv_shl, bv_shr, bv_seq, bv_sne, bv_ptr, bv_if, bv_map, bv_nf, bv_bool, bv_sl, bv_fn, uv_not, uv_neg, eqV, nilV, nc_ptr, nc_fn, nc_if, Option.map_some, toN, Nat.mul_one, implies_true, true_and, and_true, and_self]
      have hbw : IntKind.i64.wrap b' = b' := w64 (by omega)
      have go : ∀ ok : Bool, ok = (decide (1 ≤ b') && decide (b' ≤ 10)) → callV Try.prog 35 [.pointer (some ⟨R, 0, none⟩), .bool ok] w30 fun _ w96 => stC w96 ⟨O, 13, none⟩ [.int .i64 b'] fun w97 => MsO w w20 R O 8 s1 w97 := by
        intro ok hok
        refine (must35_c (ok' := decide (1 ≤ IntKind.i64.wrap b) && decide (IntKind.i64.wrap b ≤ 10)) (fun e => ?_) r2).mono ?_
        · have vb' : b' = b := vb (b2 e)
          subst vb'
          rw [hok, hbw]
        rintro _ w96 ⟨-, r3, f3⟩
        refine stC_one (kO f3 (kO f2 o2)) (by simp [msgC]) rfl fun w97 o4 g4 => ?_
        refine plain (m := { blank 8 with prov := IntKind.u16.wrap a', why := b' }) (by omega) (by omega) hr rfl o4 (kR g4 r3) (fun e => ?_) (((((nO f1).trans (nX g2)).trans (nO f2)).trans (nO f3)).trans (nX g4))
        have e2 := (rdF_inv e).2.1
        have e1 := b2 e2
        have vb' : b' = b := vb e1
        subst vb'
        rw [va (b1 e1), hbw]
      refine br_dec (fun h1 => go _ (by rw [decide_eq_true h1]; rfl)) (fun h1 => go false (by rw [decide_eq_false h1]; rfl))
    refine br_dec (fun k9 => ?_) (fun k9 => ?_)
    · subst k9
      have h20' := h20
      rw [(kn (by omega) (by omega)).1] at h20'
      obtain ⟨⟨a, t1⟩, ha⟩ : ∃ r, rdW 32 s1 = r := ⟨_, rfl⟩
      obtain ⟨⟨b, t2⟩, hb⟩ : ∃ r, rdW 32 t1 = r := ⟨_, rfl⟩
      obtain ⟨⟨nn, t3⟩, hn⟩ : ∃ r, rdW 10 t2 = r := ⟨_, rfl⟩
      have hr : rdFields 9 s1 = ({ blank 9 with tick := IntKind.u32.wrap a, bse := IntKind.u32.wrap b, bytes := (rdB nn.toNat t3 []).1 }, (rdB nn.toNat t3 []).2) := by
        show rdSnap s1 = _
        unfold rdSnap
        simp only [ha, hb, hn]
      have b1 := fun e => (good_W 32).back s1 (by rw [ha]; exact e)
      have b2 := fun e => (good_W 32).back t1 (by rw [hb]; exact e)
      have b3 := fun e => (good_W 10).back t2 (by rw [hn]; exact e)
      refine (number34_c (k := 32) (by omega) h20').mono ?_
      rintro _ w26 ⟨a', rfl, _, va, r1, f1⟩
      rw [ha] at va r1
      simp only [isB_i, isK_i, isP_i, isTup_i, isInt_i, isSl_i, isPtr_i, isCs_i, isStr_i, isFn_i, isIf_i, rd_i, br_t, br_f, orO_s, orO_n, gd_t, bv_add, bv_sub, bv_mul, bv_eql, bv_neq, bv_lss, bv_leq, bv_gtr, bv_geq, bv_quo, bv_rem, bv_shl, bv_shr, bv_seq, bv_sne, bv_ptr, bv_if, bv_map, bv_nf, bv_bool, bv_sl, bv_fn, uv_not, uv_neg, eqV, nilV, nc_ptr, nc_fn, nc_if, Option.map_some, toN, Nat.mul_one, implies_true, true_and, and_true, and_self]
      refine stC_one (kO f1 hb20) (by simp [msgC]) rfl fun w28 o2 g2 => ?_
      refine (number34_c (k := 32) (by omega) (kR g2 r1)).mono ?_
      rintro _ w30 ⟨b', rfl, _, vb, r2, f2⟩
      rw [hb] at vb r2
      simp only [isB_i, isK_i, isP_i, isTup_i, isInt_i, isSl_i, isPtr_i, isCs_i, isStr_i, isFn_i, isIf_i, rd_i, br_t, br_f, orO_s, orO_n, gd_t, bv_add, bv_sub, bv_mul, bv_eql, bv_neq, bv_lss, bv_leq, bv_gtr, bv_geq, bv_quo, bv_rem, bv_shl, bv_shr, bv_seq, bv_sne, bv_ptr, bv_if, bv_map, bv_nf, bv_bool, bv_sl, bv_fn, uv_not, uv_neg, eqV, nilV, nc_ptr, nc_fn, nc_if, Option.map_some, toN, Nat.mul_one, implies_true, true_and, and_true, and_self]
      refine stC_one (kO f2 o2) (by simp [msgC]) rfl fun w32 o3 g3 => ?_
      refine (number34_c (k := 10) (by omega) (kR g3 r2)).mono ?_
      rintro _ w112 ⟨n', rfl, hn', vn, r3, f3⟩
      rw [hn] at vn r3
      simp only [isB_i, isK_i, isP_i, isTup_i, isInt_i, isSl_i, isPtr_i, isCs_i, isStr_i, isFn_i, isIf_i, rd_i, br_t, br_f, orO_s, orO_n, gd_t, bv_add, bv_sub, bv_mul, bv_eql, bv_neq, bv_lss, bv_leq, bv_gtr, bv_geq, bv_quo, bv_rem, bv_shl, bv_shr, bv_seq, bv_sne, bv_ptr, bv_if, bv_map, bv_nf, bv_bool, bv_sl, bv_fn, uv_not, uv_neg, eqV, nilV, nc_ptr, nc_fn, nc_if, Option.map_some, toN, Nat.mul_one, implies_true, true_and, and_true, and_self]
      obtain ⟨n0, hn0⟩ : ∃ n0 : Nat, n' = n0 := ⟨n'.toNat, by omega⟩
      subst hn0
      have hn1024 : (n0 : Int) < 1024 := hn'.2
      have hnn : rdB nn.toNat t3 [] = rdB n0 t3 [] := by
        by_cases e : t3.e = 0
        · have hv : (n0 : Int) = nn := vn (b3 e)
          rw [← hv, Int.toNat_natCast]
        · rw [rdB_stop e, rdB_stop e]
      rw [hnn] at hr
      have hF112 : Fm (fun i => i = R ∨ w.heap.size < i) w20 w112 := ((((nO f1).trans (nX g2)).trans (nO f2)).trans (nX g3)).trans (nO f3)
      have hs112 := hF112.size
      refine ⟨fun u w' => ∃ (i : Nat) (s' : RS) (acc : List Int) (q : Option Addr) (cq : Nat), u 6 = .int .i64 i ∧ RefAt w' R s' ∧ w'.heap[O]? = some (.cells (msgC { blank 9 with tick := IntKind.u32.wrap a', bse := IntKind.u32.wrap b', bytes := acc } q cq).toArray 40 (0, 0)) ∧
        w'.ownsRow w.heap.size 5 1 (.slice q acc.length cq) acc.length (acc.map (Value.int .u8)) ∧ (∀ y ∈ acc, 0 ≤ y ∧ y < 256) ∧ Fm (fun i => i = R ∨ w.heap.size < i) w20 w' ∧ acc.length = i ∧ i ≤ n0 ∧ rdB (n0 - i) s' acc = rdB n0 t3 [], fun u _ => n0 - (intOf (u 6)).toNat, ?_, ?_⟩
      · exact ⟨0, t3, [], none, 0, rfl, r3, kO f3 o3, own_nil _ _, by simp, hF112, rfl, by omega, rfl⟩
      rintro u w113 ⟨i, s', acc, q, cq, h6', hr', ho, hown, hrng, hF, hai, hin, hgo⟩
      change u 6 = _ at h6'
      simp only [h6', isB_i, isK_i, isP_i, isTup_i, isInt_i, isSl_i, isPtr_i, isCs_i, isStr_i, isFn_i, isIf_i, rd_i, br_t, br_f, orO_s, orO_n, gd_t, bv_add, bv_sub, bv_mul, bv_eql, bv_neq, bv_lss, bv_leq, bv_gtr, bv_geq, bv_quo, bv_rem, bv_shl, bv_shr, bv_seq, bv_sne, bv_ptr, bv_if, bv_map, bv_nf, bv_bool, bv_sl, bv_fn, uv_not, uv_neg, eqV, nilV, nc_ptr, nc_fn, nc_if, Option.map_some, toN, Nat.mul_one, implies_true, true_and, and_true, and_self]
      obtain ⟨remx, hRx, hRx0, hRx1, hRx2⟩ := id hr'
      have done : rdB n0 t3 [] = (acc, s') → MsO w w20 R O 9 s1 w113 := by
        intro hd
        rw [hd] at hr
        refine ⟨_, q, cq, ho, ?_, ?_, hown, hrng, hF⟩
        · rw [(kn (by omega) (by omega)).2, hr]; exact hr'
        · rw [(kn (by omega) (by omega)).2, hr]
          intro e
          have e3 : t3.e = 0 := rdB_e0 n0 t3 [] (by rw [hd]; exact e)
          have e2 := b3 e3
          have e1 := b2 e2
          dsimp only at va vb
          rw [va (b1 e1), vb e1]
      refine br_dec (fun hlt => ?_) (fun hlt => done (by rw [← hgo, show n0 - i = 0 by omega]; rfl))
      simp only [addr_add, Nat.zero_add]
      refine rd_of (v := .int .i64 s'.e) (cellOf hRx rfl) ?_
      simp only [isB_i, isK_i, isP_i, isTup_i, isInt_i, isSl_i, isPtr_i, isCs_i, isStr_i, isFn_i, isIf_i, rd_i, br_t, br_f, orO_s, orO_n, gd_t, bv_add, bv_sub, bv_mul, bv_eql, bv_neq, bv_lss, bv_leq, bv_gtr, bv_geq, bv_quo, bv_rem, bv_shl, bv_shr, bv_seq, bv_sne, bv_ptr, bv_if, bv_map, bv_nf, bv_bool, bv_sl, bv_fn, uv_not, uv_neg, eqV, nilV, nc_ptr, nc_fn, nc_if, Option.map_some, toN, Nat.mul_one, implies_true, true_and, and_true, and_self]
      refine br_dec (fun he => ?_) (fun he => done (by rw [← hgo]; exact rdB_stop he))
      obtain ⟨z, hz⟩ : ∃ z, n0 - i = z + 1 := ⟨n0 - i - 1, by omega⟩
      rw [hz] at hgo
      rw [rdB, if_pos he] at hgo
      refine (number34_c (k := 8) (by omega) hr').mono ?_
      rintro _ w117 ⟨y, rfl, hy, vy, r5, f5⟩
      have vy' := vy he
      rw [← vy'] at hgo
      simp only [isB_i, isK_i, isP_i, isTup_i, isInt_i, isSl_i, isPtr_i, isCs_i, isStr_i, isFn_i, isIf_i, rd_i, br_t, br_f, orO_s, orO_n, gd_t, bv_add, bv_sub, bv_mul, bv_eql, bv_neq, bv_lss, bv_leq, bv_gtr, bv_geq, bv_quo, bv_rem, bv_shl, bv_shr, bv_seq, bv_sne, bv_ptr, bv_if, bv_map, bv_nf, bv_bool, bv_sl, bv_fn, uv_not, uv_neg, eqV, nilV, nc_ptr, nc_fn, nc_if, Option.map_some, toN, Nat.mul_one, implies_true, true_and, and_true, and_self]
      have hyw : IntKind.u8.wrap y = y := by simp only [IntKind.wrap, IntKind.bits, IntKind.signed]; simp; omega
      rw [hyw] at hgo ⊢
      have ho5 := kO f5 ho
      refine rd_of (v := .slice q acc.length cq) (cellOf ho5 rfl) ?_
      simp only [isB_i, isK_i, isP_i, isTup_i, isInt_i, isSl_i, isPtr_i, isCs_i, isStr_i, isFn_i, isIf_i, rd_i, br_t, br_f, orO_s, orO_n, gd_t, bv_add, bv_sub, bv_mul, bv_eql, bv_neq, bv_lss, bv_leq, bv_gtr, bv_geq, bv_quo, bv_rem, bv_shl, bv_shr, bv_seq, bv_sne, bv_ptr, bv_if, bv_map, bv_nf, bv_bool, bv_sl, bv_fn, uv_not, uv_neg, eqV, nilV, nc_ptr, nc_fn, nc_if, Option.map_some, toN, Nat.mul_one, implies_true, true_and, and_true, and_self]
      have kslR : ∀ {w' : World} {c : Array Value} {t b : Nat}, w'.heap[b]? = some (.cells c t (0, 0)) → t ≠ 5 → w'.ownsRow w.heap.size 5 1 (.slice q acc.length cq) acc.length (acc.map (Value.int .u8)) → ¬ (Value.slice q acc.length cq).ownBlock = some b := by
        intro w' c t b hb ht ho e
        obtain ⟨_, cur, hc⟩ := own_block ho e
        rw [hb] at hc; cases hc; exact ht rfl
      have hown5 := f5.owns hown fun b hb e => kslR hRx (by decide) hown (by rw [← e]; exact hb)
      have hs117 := f5.size
      have hs113 := hF.size
      have hOl := lt_of_blk ho5
      refine append_1 (by rw [row25]) row5 rfl rfl hown5 (by omega) (by simp only [maxLen]; omega) (by omega) fun v w122 hv hf => ?_
      have hv2 : w122.ownsRow w.heap.size 5 1 v (acc ++ [y]).length ((acc ++ [y]).map (Value.int .u8)) := by rw [List.length_append, List.map_append]; exact hv
      obtain ⟨q4, c4, rfl, -⟩ := own_read hv2
      simp only [isB_i, isK_i, isP_i, isTup_i, isInt_i, isSl_i, isPtr_i, isCs_i, isStr_i, isFn_i, isIf_i, rd_i, br_t, br_f, orO_s, orO_n, gd_t, bv_add, bv_sub, bv_mul, bv_eql, bv_neq, bv_lss, bv_leq, bv_gtr, bv_geq, bv_quo, bv_rem, bv_shl, bv_shr, bv_seq, bv_sne, bv_ptr, bv_if, bv_map, bv_nf, bv_bool, bv_sl, bv_fn, uv_not, uv_neg, eqV, nilV, nc_ptr, nc_fn, nc_if, Option.map_some, toN, Nat.mul_one, implies_true, true_and, and_true, and_self]
      obtain ⟨remy, hRy, hRy3⟩ := id r5
      have ho122 := hf.keep ho5 (kslR ho5 (by decide) hown5)
      refine stC_one ho122 (by simp [msgC]) rfl fun w127 o6 g6 => ?_
      change w127.heap[O]? = some (.cells (msgC { blank 9 with tick := IntKind.u32.wrap a', bse := IntKind.u32.wrap b', bytes := acc ++ [y] } q4 c4).toArray 40 (0, 0)) at o6
      refine ⟨⟨i + 1, (rdW 8 s').2, acc ++ [y], q4, c4, ?_, (r5.keep hf (kslR hRy (by decide) hown5)).keep g6 hRO, o6, g6.owns hv2 fun b hb e => ?_, ?_, ?_, by simp [hai], by omega, ?_⟩, ?_⟩
      · show Value.int _ _ = _
        rw [w64 (by omega)]; rfl
      · obtain ⟨_, cur, hc⟩ := own_block hv2 hb
        rw [e, ho122] at hc; cases hc
      · intro x hx
        rcases List.mem_append.1 hx with h | h
        · exact hrng x h
        · simp at h; subst h; exact ⟨hy.1, hy.2⟩
      · refine ((hF.trans (nO f5)).trans' hf fun b hb e => ?_).trans (nX g6)
        have h1 := (own_block hown5 e).1
        have h2 := kslR (f5.keep (hF.keep hA20 (by omega)) (by omega)) (by decide) hown5
        have h3 : b ≠ A := fun e' => h2 (by rw [← e']; exact e)
        exact .inr (by omega)
      · rw [show n0 - (i + 1) = z by omega]; exact hgo
      · show n0 - (IntKind.i64.wrap ((i : Int) + 1)).toNat < n0 - ((i : Nat) : Int).toNat
        rw [w64 (by omega)]; omega
    · have hr : rdFields k s1 = (blank k, s1) := by
        unfold rdFields
        rw [if_neg k2, if_neg k3, if_neg k6, if_neg k7, if_neg k5, if_neg k8, if_neg k9]
      refine ⟨blank k, none, 0, hb20, ?_, fun _ => by rw [hr], own_nil _ _, by simp [blank], Fm.refl _ _⟩
      rw [hr]; exact h20
  · rintro - w143 ⟨m, q, c, ho, hr, hm, hown, hrng, hf⟩
    have hOA : O ≠ A := by omega
    have hA143 := hf.keep hA20 (by omega)
    refine rd_of (v := msgC m q c) (cells_all ho rfl) ?_
    refine rd_of (v := ()) rfl ?_
    refine stC_all hA143 rfl msgC_one fun w146 hb146 hf146 => ?_
    refine rd_of (v := msgC m q c) (cells_all hb146 rfl) ?_
    refine ⟨m, q, c, rfl, hr.keep hf146 (by omega), hm, (by
      rw [hA]
      refine hf146.owns hown fun i hi e => ?_
      obtain ⟨_, cur, hc⟩ := own_block hown hi
      rw [e, hA143] at hc; cases hc), hrng, ?_⟩
    · exact (hF20.trans' hf (by rintro i hi (e | e); exact e; omega)).trans' hf146 (by rintro i hi rfl; omega)
end Go.Proofs.Ytfekkdmnboccfaa
