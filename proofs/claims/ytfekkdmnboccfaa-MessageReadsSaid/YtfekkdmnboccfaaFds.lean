/- message: what a writer writes of a message's fields.  Conditions: the writer lies as it is said to lie; the message lies elsewhere, its fields in their types' ranges. -/
import Derived.Test.YtfekkdmnboccfaaFld
namespace Go.Proofs.Ytfekkdmnboccfaa
set_option linter.unusedSimpArgs false
set_option linter.unusedVariables false
open Go Go.RowKit VC
structure Msg where
  kind : Int
  seq : Int
  cq : Int
  cb : Int
  cdx : Int
  cdy : Int
  ct : Int
  prov : Int
  id : Int
  shot : Int
  d0 : Int
  d1 : Int
  d2 : Int
  why : Int
  p0 : Int
  p1 : Int
  p2 : Int
  v0 : Int
  v1 : Int
  v2 : Int
  tick : Int
  bse : Int
  bytes : List Int
def I64 (x : Int) : Prop := -9223372036854775808 ≤ x ∧ x ≤ 9223372036854775807
/-- The fields are in their types' ranges. -/
structure Mok (m : Msg) : Prop where
  kind : I64 m.kind
  seq : 0 ≤ m.seq ∧ m.seq < 65536
  cq : 0 ≤ m.cq ∧ m.cq < 65536
  cb : 0 ≤ m.cb ∧ m.cb < 256
  cdx : -128 ≤ m.cdx ∧ m.cdx < 128
  cdy : -128 ≤ m.cdy ∧ m.cdy < 128
  ct : I64 m.ct
  prov : 0 ≤ m.prov ∧ m.prov < 65536
  id : I64 m.id
  shot : I64 m.shot
  d0 : I64 m.d0
  d1 : I64 m.d1
  d2 : I64 m.d2
  why : I64 m.why
  p0 : I64 m.p0
  p1 : I64 m.p1
  p2 : I64 m.p2
  v0 : I64 m.v0
  v1 : I64 m.v1
  v2 : I64 m.v2
  tick : 0 ≤ m.tick ∧ m.tick < 4294967296
  bse : 0 ≤ m.bse ∧ m.bse < 4294967296
  bytes : ∀ y ∈ m.bytes, 0 ≤ y ∧ y < 256
/-- The cells of a message, whose bytes lie at p. -/
def msgC (m : Msg) (p : Option Addr) (cp : Nat) : List Value :=
  [.int .i64 m.kind, .int .u16 m.seq, .int .u16 m.cq, .int .u8 m.cb, .int .i8 m.cdx, .int .i8 m.cdy, .int .i64 m.ct, .int .u16 m.prov, .int .i64 m.id, .int .i64 m.shot, .int .i64 m.d0, .int .i64 m.d1, .int .i64 m.d2, .int .i64 m.why,
    .int .i64 m.p0, .int .i64 m.p1, .int .i64 m.p2, .int .i64 m.v0, .int .i64 m.v1, .int .i64 m.v2, .int .u32 m.tick, .int .u32 m.bse, .slice p m.bytes.length cp]
theorem ne_of {α : Type} {l : List α} {j : Nat} {y : α} (h : l[j]? = some y) : l ≠ [] := by rintro rfl; simp at h
def fieldBits (m : Msg) : List Int :=
  if m.kind = 2 then cmdBits m.cq m.cb m.cdx m.cdy m.ct
  else if m.kind = 3 then numBits m.prov 16 ++ (numBits m.shot 1 ++ vecB [m.d0, m.d1, m.d2] 18)
  else if m.kind = 6 then numBits m.seq 16 ++ (vecB [m.p0, m.p1, m.p2] 32 ++ vecB [m.v0, m.v1, m.v2] 32)
  else if m.kind = 7 then numBits m.prov 16 ++ numBits m.id 31
  else if m.kind = 5 then numBits m.id 31
  else if m.kind = 8 then numBits m.prov 16 ++ numBits m.why 4
  else if m.kind = 9 then numBits m.tick 32 ++ (numBits m.bse 32 ++ (numBits m.bytes.length 10 ++ byteBits m.bytes))
  else []
def idBad (x : Int) : Bool := numBad x 31 || !decide (0 < x)
def whyBad (x : Int) : Bool := numBad x 4 || !(decide (1 ≤ x) && decide (x ≤ 10))
def fieldBad (m : Msg) : Bool :=
  if m.kind = 2 then cmdBad m.cq m.cb m.cdx m.cdy m.ct
  else if m.kind = 3 then numBad m.prov 16 || (numBad m.shot 1 || vecD [m.d0, m.d1, m.d2] 18 65536)
  else if m.kind = 6 then numBad m.seq 16 || (vecD [m.p0, m.p1, m.p2] 32 (-1) || vecD [m.v0, m.v1, m.v2] 32 (-1))
  else if m.kind = 7 then numBad m.prov 16 || idBad m.id
  else if m.kind = 5 then idBad m.id
  else if m.kind = 8 then numBad m.prov 16 || whyBad m.why
  else if m.kind = 9 then numBad m.tick 32 || (numBad m.bse 32 || numBad m.bytes.length 10)
  else false
def known (m : Msg) : Bool := decide (1 ≤ m.kind) && decide (m.kind ≤ 9)
theorem wr64 {x : Int} (h : I64 x) : IntKind.i64.wrap (IntKind.u64.wrap x) = x := by
  unfold I64 at h
  simp only [IntKind.wrap, IntKind.bits, IntKind.signed]
  simp
  split <;> omega
theorem wr16 {x : Int} (h : 0 ≤ x ∧ x < 65536) : IntKind.u16.wrap (IntKind.u64.wrap x) = x := by
  simp only [IntKind.wrap, IntKind.bits, IntKind.signed]; simp; omega
theorem wr8 {x : Int} (h : 0 ≤ x ∧ x < 256) : IntKind.u8.wrap (IntKind.u64.wrap x) = x := by
  simp only [IntKind.wrap, IntKind.bits, IntKind.signed]; simp; omega
theorem wr32 {x : Int} (h : 0 ≤ x ∧ x < 4294967296) : IntKind.u32.wrap (IntKind.u64.wrap x) = x := by
  simp only [IntKind.wrap, IntKind.bits, IntKind.signed]; simp; omega
theorem wrI (x : Int) : I64 (IntKind.i64.wrap x) := by
  unfold I64
  rw [IntKind.wrap_i64]; omega
theorem wrT {t : Int} (h : I64 t) : IntKind.i64.wrap (IntKind.i64.wrap (t - 1) + 1) = t := by
  unfold I64 at h
  rw [IntKind.wrap_i64, IntKind.wrap_i64]; omega
theorem nila_bytes {a : Addr} {w : World} {K : Prop} (k : K) : nilA Try.prog 54 (.pointer (some a)) "embrasure/message.bytes" w K := ⟨by kernel_rfl, k⟩
variable {w : World} {base A : Nat} {T : TypeId} {wr : Bool} {bs : List Int} {g : Option Nat}
theorem chain {f : FuncId} {args : List Value} {b1 : List Int} {d1 : Bool} {Q : Value → World → Prop} (h : callV Try.prog f args w (WrP base A T wr bs g w b1 d1))
    (k : ∀ g1 w1, WrAt w1 base A T (.bool (wr || d1)) (bs ++ b1) g1 → (g1 = g ∨ ∃ b, g1 = some b ∧ w.heap.size ≤ b) → Fm (fun i => i = A ∨ g = some i) w w1 → Q (.tuple #[]) w1) : callV Try.prog f args w Q :=
  h.mono fun v w1 ⟨e, g1, h1, h2, h3⟩ => by subst e; exact k g1 w1 h1 h2 h3
/-- What fields give: whether the kind is known; the bits. -/
def FdP (base A : Nat) (T : TypeId) (wr : Bool) (bs : List Int) (g : Option Nat) (w : World) (m : Msg) (v : Value) (w' : World) : Prop := v = .bool (known m) ∧ WrP base A T wr bs g w (fieldBits m) (fieldBad m) (.tuple #[]) w'
theorem WrP.nil (h : WrAt w base A T (.bool wr) bs g) : WrP base A T wr bs g w [] false (.tuple #[]) w := ⟨rfl, g, by rw [List.append_nil, Bool.or_false]; exact h, .inl rfl, Fm.refl _ _⟩
set_option maxHeartbeats 2000000 in
set_option maxRecDepth 20000 in
theorem fields22_c {B tB cp : Nat} {p : Option Addr} {m : Msg} (h : WrAt w base A T (.bool wr) bs g) (hB : w.heap[B]? = some (.cells (msgC m p cp).toArray tB (0, 0))) (hm : Mok m) (hBA : B ≠ A) (hBg : g ≠ some B)
    (hy : ∀ j y, m.bytes[j]? = some y → ∃ ad, p = some ad ∧ ad.block ≠ A ∧ g ≠ some ad.block ∧ w.cell? (ad.add j) = some (.int .u8 y)) (hpl : ∀ ad, p = some ad → m.bytes ≠ [] → ad.block < w.heap.size) (hlen : bs.length + 8 * m.bytes.length + 1000 ≤ 1125899906842000) :
    callV Try.prog 22 [wv A, .pointer (some ⟨B, 0, none⟩)] w (FdP base A T wr bs g w m) := by
  have hBl := lt_of_blk hB
  refine vc22 _ ⟨B, 0, none⟩ w _ (rd_of (v := .int .i64 m.kind) (cellOf hB rfl) ?_)
  simp only [isB_i, isK_i, isP_i, isTup_i, isInt_i, isSl_i, isPtr_i, isCs_i, isStr_i, isFn_i, isIf_i, rd_i, br_t, br_f, orO_s, orO_n, gd_t, bv_add, bv_sub, bv_mul, bv_eql, bv_neq, bv_lss, bv_leq, bv_gtr, bv_geq, bv_quo, bv_rem, bv_shl, bv_shr, bv_seq, bv_sne, bv_ptr, bv_if, bv_map, bv_nf, bv_bool, bv_sl, bv_fn, uv_not, uv_neg, eqV, nilV, nc_ptr, nc_fn, nc_if, Option.map_some, toN, Nat.mul_one, implies_true, true_and, and_true, and_self, addr_add, Nat.zero_add]
  have keepB : ∀ {w1 : World}, Fm (fun i => i = A ∨ g = some i) w w1 → w1.heap[B]? = some (.cells (msgC m p cp).toArray tB (0, 0)) := fun hf => hf.keep hB (by rintro (e | e); exact hBA e; exact hBg e)
  refine ⟨fun _ w' => w' = w ∧ m.kind = 8, ?_, ?_⟩
  · refine br_dec (fun k1 => ?_) (fun k1 => ?_)
    · refine ⟨by simp [known, k1], ?_⟩
      have : fieldBits m = [] ∧ fieldBad m = false := by unfold fieldBits fieldBad; rw [k1]; exact ⟨rfl, rfl⟩
      rw [this.1, this.2]; exact WrP.nil h
    refine br_dec (fun k4 => ?_) (fun k4 => ?_)
    · refine ⟨by simp [known, k4], ?_⟩
      have : fieldBits m = [] ∧ fieldBad m = false := by unfold fieldBits fieldBad; rw [k4]; exact ⟨rfl, rfl⟩
      rw [this.1, this.2]; exact WrP.nil h
    refine br_dec (fun k2 => ?_) (fun k2 => ?_)
    · have e1 : fieldBits m = cmdBits m.cq m.cb m.cdx m.cdy m.ct := by unfold fieldBits; rw [if_pos k2]
      have e2 : fieldBad m = cmdBad m.cq m.cb m.cdx m.cdy m.ct := by unfold fieldBad; rw [if_pos k2]
      refine (command40_c (i := 2) h hB rfl rfl rfl rfl rfl hBA hBg (wr16 hm.cq) (wr8 hm.cb) hm.cdx hm.cdy (wrT hm.ct) (wr64 (wrI _)) (by omega)).mono ?_
      rintro _ w4 h4
      refine ⟨by simp [known, k2], ?_⟩
      rw [e1, e2]
      obtain ⟨rfl, h4⟩ := h4
      exact ⟨rfl, h4⟩
    refine br_dec (fun k3 => ?_) (fun k3 => ?_)
    · have e1 : fieldBits m = numBits m.prov 16 ++ (numBits m.shot 1 ++ vecB [m.d0, m.d1, m.d2] 18) := by unfold fieldBits; rw [if_neg k2, if_pos k3]
      have e2 : fieldBad m = (numBad m.prov 16 || (numBad m.shot 1 || vecD [m.d0, m.d1, m.d2] 18 65536)) := by unfold fieldBad; rw [if_neg k2, if_pos k3]
      refine chain (num41_c (k := 16) (by omega) h hB (i := 7) rfl hBA hBg (wr16 hm.prov) (by omega)) fun g1 w1 hw1 hg1 hf1 => ?_
      have b1 := apart_of hBl hBg hg1
      refine chain (num30_c (k := 1) (by omega) hw1 (keepB hf1) (i := 9) rfl hBA b1 (wr64 hm.shot) (by rw [List.length_append, bitsOf_length]; omega)) fun g2 w2 hw2 hg2 hf2 => ?_
      have hf2' := fm_trans hf1 hg1 hf2
      have hg2' := grow_trans hf1.size hg1 hg2
      refine (vec42_c (k := 18) (by omega) hw2 (keepB hf2') (i := 10) rfl rfl rfl hBA (apart_of hBl hBg hg2') (by rw [List.length_append, List.length_append, bitsOf_length, bitsOf_length]; omega)).mono ?_
      rintro _ w3 h3
      obtain rfl := h3.1
      refine ⟨by simp [known, k3], ?_⟩
      rw [e1, e2]
      exact WrP.seq hg1 hf1 (WrP.seq hg2 hf2 h3)
    refine br_dec (fun k6 => ?_) (fun k6 => ?_)
    · have e1 : fieldBits m = numBits m.seq 16 ++ (vecB [m.p0, m.p1, m.p2] 32 ++ vecB [m.v0, m.v1, m.v2] 32) := by unfold fieldBits; rw [if_neg k2, if_neg k3, if_pos k6]
      have e2 : fieldBad m = (numBad m.seq 16 || (vecD [m.p0, m.p1, m.p2] 32 (-1) || vecD [m.v0, m.v1, m.v2] 32 (-1))) := by unfold fieldBad; rw [if_neg k2, if_neg k3, if_pos k6]
      refine chain (num41_c (k := 16) (by omega) h hB (i := 1) rfl hBA hBg (wr16 hm.seq) (by omega)) fun g1 w1 hw1 hg1 hf1 => ?_
      have b1 := apart_of hBl hBg hg1
      refine chain (vec42_c (k := 32) (by omega) hw1 (keepB hf1) (i := 14) rfl rfl rfl hBA b1 (by rw [List.length_append, bitsOf_length]; omega)) fun g2 w2 hw2 hg2 hf2 => ?_
      have hf2' := fm_trans hf1 hg1 hf2
      have hg2' := grow_trans hf1.size hg1 hg2
      refine (vec42_c (k := 32) (by omega) hw2 (keepB hf2') (i := 17) rfl rfl rfl hBA (apart_of hBl hBg hg2') (by rw [List.length_append, List.length_append, bitsOf_length]; simp only [vecB, vecBits, List.flatMap_cons, List.flatMap_nil, List.length_append, bitsOf_length, List.length_nil]; omega)).mono ?_
      rintro _ w3 h3
      obtain rfl := h3.1
      refine ⟨by simp [known, k6], ?_⟩
      rw [e1, e2]
      exact WrP.seq hg1 hf1 (WrP.seq hg2 hf2 h3)
    refine br_dec (fun k7 => ?_) (fun k7 => ?_)
    · have e1 : fieldBits m = numBits m.prov 16 ++ numBits m.id 31 := by unfold fieldBits; rw [if_neg k2, if_neg k3, if_neg k6, if_pos k7]
      have e2 : fieldBad m = (numBad m.prov 16 || idBad m.id) := by unfold fieldBad; rw [if_neg k2, if_neg k3, if_neg k6, if_pos k7]
      refine chain (num41_c (k := 16) (by omega) h hB (i := 7) rfl hBA hBg (wr16 hm.prov) (by omega)) fun g1 w1 hw1 hg1 hf1 => ?_
      refine (id43_c hw1 (keepB hf1) (i := 8) rfl hBA (apart_of hBl hBg hg1) (wr64 hm.id) (by rw [List.length_append, bitsOf_length]; omega)).mono ?_
      rintro _ w3 h3
      obtain rfl := h3.1
      refine ⟨by simp [known, k7], ?_⟩
      rw [e1, e2]
      exact WrP.seq hg1 hf1 h3
    refine br_dec (fun k5 => ?_) (fun k5 => ?_)
    · have e1 : fieldBits m = numBits m.id 31 := by unfold fieldBits; rw [if_neg k2, if_neg k3, if_neg k6, if_neg k7, if_pos k5]
      have e2 : fieldBad m = idBad m.id := by unfold fieldBad; rw [if_neg k2, if_neg k3, if_neg k6, if_neg k7, if_pos k5]
      refine (id43_c h hB (i := 8) rfl hBA hBg (wr64 hm.id) (by omega)).mono ?_
      rintro _ w3 h3
      obtain rfl := h3.1
      refine ⟨by simp [known, k5], ?_⟩
      rw [e1, e2]
      exact h3
    refine br_dec (fun k8 => ⟨rfl, k8⟩) (fun k8 => ?_)
    refine br_dec (fun k9 => ?_) (fun k9 => ?_)
    · have e1 : fieldBits m = numBits m.tick 32 ++ (numBits m.bse 32 ++ (numBits m.bytes.length 10 ++ byteBits m.bytes)) := by unfold fieldBits; rw [if_neg k2, if_neg k3, if_neg k6, if_neg k7, if_neg k5, if_neg k8, if_pos k9]
      have e2 : fieldBad m = (numBad m.tick 32 || (numBad m.bse 32 || numBad m.bytes.length 10)) := by unfold fieldBad; rw [if_neg k2, if_neg k3, if_neg k6, if_neg k7, if_neg k5, if_neg k8, if_pos k9]
      refine chain (num45_c (k := 32) (by omega) h hB (i := 20) rfl hBA hBg (wr32 hm.tick) (by omega)) fun g1 w1 hw1 hg1 hf1 => ?_
      have b1 := apart_of hBl hBg hg1
      refine chain (num45_c (k := 32) (by omega) hw1 (keepB hf1) (i := 21) rfl hBA b1 (wr32 hm.bse) (by rw [List.length_append, bitsOf_length]; omega)) fun g2 w2 hw2 hg2 hf2 => ?_
      have hf2' := fm_trans hf1 hg1 hf2
      have hg2' := grow_trans hf1.size hg1 hg2
      have hw2' := hw2.keep (Fm.drew w2) id fun _ _ y => y
      have hF2 : Fm (fun i => i = A ∨ g = some i) w w2.drew := hf2'.trans (Fm.drew w2).none
      refine ⟨fun w' => w'.heap[B]? = some (.cells (msgC m p cp).toArray tB (0, 0)), keepB hF2, ?_⟩
      simp only [isB_i, isK_i, isP_i, isTup_i, isInt_i, isSl_i, isPtr_i, isCs_i, isStr_i, isFn_i, isIf_i, rd_i, br_t, br_f, orO_s, orO_n, gd_t, bv_add, bv_sub, bv_mul, bv_eql, bv_neq, bv_lss, bv_leq, bv_gtr, bv_geq, bv_quo, bv_rem, bv_shl, bv_shr, bv_seq, bv_sne, bv_ptr, bv_if, bv_map, bv_nf, bv_bool, bv_sl, bv_fn, uv_not, uv_neg, eqV, nilV, nc_ptr, nc_fn, nc_if, Option.map_some, toN, Nat.mul_one, implies_true, true_and, and_true, and_self]
      refine nila_bytes ⟨fun _ _ => nila_bytes trivial, meth_bytes ?_⟩
      refine (bytes80_c (k := 10) (by omega) hw2' (keepB hF2) (i := 22) rfl hBA (apart_of hBl hBg hg2') ?_ (by simp only [List.length_append, bitsOf_length]; omega)).mono ?_
      · intro j y hj
        obtain ⟨ad, e, h1, h2, h3⟩ := hy j y hj
        have hblk : (ad.add j).block = ad.block := by unfold Addr.add; split <;> rfl
        exact ⟨ad, e, h1, apart_of (hpl ad e (ne_of hj)) h2 hg2', hF2.cell h3 (by rw [hblk]; rintro (e | e); exact h1 e; exact h2 e)⟩
      rintro v3 w3 h3
      obtain ⟨rfl, g3, hw3, hg3, hf3⟩ := h3
      refine ⟨hf3.keep (keepB hF2) (by rintro (e | e); exact hBA e; exact apart_of hBl hBg hg2' e), ?_⟩
      refine ⟨by simp [known, k9], ?_⟩
      rw [e1, e2]
      exact WrP.seq hg1 hf1 (WrP.seq hg2 (hf2.trans (Fm.drew w2).none) ⟨rfl, g3, hw3, hg3, hf3⟩)
    · have hk : known m = false := by
        unfold known
        rw [Bool.and_eq_false_iff, decide_eq_false_iff_not, decide_eq_false_iff_not]
        omega
      refine ⟨by rw [hk], ?_⟩
      have : fieldBits m = [] ∧ fieldBad m = false := by
        unfold fieldBits fieldBad
        rw [if_neg k2, if_neg k3, if_neg k6, if_neg k7, if_neg k5, if_neg k8, if_neg k9, if_neg k2, if_neg k3, if_neg k6, if_neg k7, if_neg k5, if_neg k8, if_neg k9]
        exact ⟨rfl, rfl⟩
      rw [this.1, this.2]; exact WrP.nil h
  · rintro u53 w54 ⟨e0, k8⟩
    obtain rfl : w = w54 := e0.symm
    have k2 : ¬ m.kind = 2 := by omega
    have k3 : ¬ m.kind = 3 := by omega
    have k6 : ¬ m.kind = 6 := by omega
    have k7 : ¬ m.kind = 7 := by omega
    have k5 : ¬ m.kind = 5 := by omega
    have e1 : fieldBits m = numBits m.prov 16 ++ numBits m.why 4 := by unfold fieldBits; rw [if_neg k2, if_neg k3, if_neg k6, if_neg k7, if_neg k5, if_pos k8]
    have e2 : fieldBad m = (numBad m.prov 16 || whyBad m.why) := by unfold fieldBad; rw [if_neg k2, if_neg k3, if_neg k6, if_neg k7, if_neg k5, if_pos k8]
    refine chain (num41_c (k := 16) (by omega) h hB (i := 7) rfl hBA hBg (wr16 hm.prov) (by omega)) fun g1 w1 hw1 hg1 hf1 => ?_
    refine chain (num44_c (k := 4) (by omega) hw1 (keepB hf1) (i := 13) rfl hBA (apart_of hBl hBg hg1) (wr64 hm.why) (by rw [List.length_append, bitsOf_length]; omega)) fun g2 w2 hw2 hg2 hf2 => ?_
    have hf2' := fm_trans hf1 hg1 hf2
    have hg2' := grow_trans hf1.size hg1 hg2
    have hw2' := hw2.keep (Fm.drew w2) id fun _ _ y => y
    have hF2 : Fm (fun i => i = A ∨ g = some i) w w2.drew := hf2'.trans (Fm.drew w2).none
    have fin : ∀ b : Bool, b = (decide (1 ≤ m.why) && decide (m.why ≤ 10)) → callV Try.prog 83 [.pointer (some ⟨A, 0, none⟩), .bool b] w2.drew fun v w' => w'.heap[B]? = some (.cells (msgC m p cp).toArray tB (0, 0)) ∧ FdP base A T wr bs g w m (.bool true) w' := by
      intro b hb
      refine (within83_c b hw2').mono ?_
      rintro v3 w3 h3
      have h3' := WrP.seq hg1 hf1 (WrP.seq hg2 (hf2.trans (Fm.drew w2).none) h3)
      obtain ⟨rfl, g3, hw3, hg3, hf3⟩ := h3
      refine ⟨hf3.keep (keepB hF2) (by rintro (e | e); exact hBA e; exact apart_of hBl hBg hg2' e), by simp [known, k8], ?_⟩
      rw [e1, e2]
      rw [List.append_nil] at h3'
      have : whyBad m.why = (numBad m.why 4 || !b) := by rw [hb]; rfl
      rw [this]
      exact h3'
    refine ⟨fun w' => w'.heap[B]? = some (.cells (msgC m p cp).toArray tB (0, 0)), keepB hF2, ?_⟩
    simp only [isB_i, isK_i, isP_i, isTup_i, isInt_i, isSl_i, isPtr_i, isCs_i, isStr_i, isFn_i, isIf_i, rd_i, br_t, br_f, orO_s, orO_n, gd_t, bv_add, bv_sub, bv_mul, bv_eql, bv_neq, bv_lss, bv_leq, bv_gtr, bv_geq, bv_quo, bv_rem, bv_shl, bv_shr, bv_seq, bv_sne, bv_ptr, bv_if, bv_map, bv_nf, bv_bool, bv_sl, bv_fn, uv_not, uv_neg, eqV, nilV, nc_ptr, nc_fn, nc_if, Option.map_some, toN, Nat.mul_one, implies_true, true_and, and_true, and_self]
    refine rd_of (v := .int .i64 m.why) (cellOf (keepB hF2) rfl) ⟨fun w' hw => rd_of (cellOf hw rfl) rfl, ?_⟩
    simp only [isB_i, isK_i, isP_i, isTup_i, isInt_i, isSl_i, isPtr_i, isCs_i, isStr_i, isFn_i, isIf_i, rd_i, br_t, br_f, orO_s, orO_n, gd_t, bv_add, bv_sub, bv_mul, bv_eql, bv_neq, bv_lss, bv_leq, bv_gtr, bv_geq, bv_quo, bv_rem, bv_shl, bv_shr, bv_seq, bv_sne, bv_ptr, bv_if, bv_map, bv_nf, bv_bool, bv_sl, bv_fn, uv_not, uv_neg, eqV, nilV, nc_ptr, nc_fn, nc_if, Option.map_some, toN, Nat.mul_one, implies_true, true_and, and_true, and_self]
    refine br_dec (fun hd1 => ?_) (fun hd1 => ?_)
    · refine rd_of (v := .int .i64 m.why) (cellOf (keepB hF2) rfl) ⟨fun w' hw => rd_of (cellOf hw rfl) rfl, ?_⟩
      simp only [isB_i, isK_i, isP_i, isTup_i, isInt_i, isSl_i, isPtr_i, isCs_i, isStr_i, isFn_i, isIf_i, rd_i, br_t, br_f, orO_s, orO_n, gd_t, bv_add, bv_sub, bv_mul, bv_eql, bv_neq, bv_lss, bv_leq, bv_gtr, bv_geq, bv_quo, bv_rem, bv_shl, bv_shr, bv_seq, bv_sne, bv_ptr, bv_if, bv_map, bv_nf, bv_bool, bv_sl, bv_fn, uv_not, uv_neg, eqV, nilV, nc_ptr, nc_fn, nc_if, Option.map_some, toN, Nat.mul_one, implies_true, true_and, and_true, and_self]
      refine nila_within ⟨fun _ _ => nila_within trivial, meth_within ?_⟩
      exact fin _ (by rw [decide_eq_true hd1]; rfl)
    · refine nila_within ⟨fun _ _ => nila_within trivial, meth_within ?_⟩
      exact fin false (by rw [decide_eq_false hd1]; rfl)
end Go.Proofs.Ytfekkdmnboccfaa
