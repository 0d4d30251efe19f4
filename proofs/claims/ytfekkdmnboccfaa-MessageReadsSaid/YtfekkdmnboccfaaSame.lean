/- message: a writer's bytes, a new reader, are two messages the same, is there nothing left.  Conditions: what is looked at may be read. -/
import Derived.Test.YtfekkdmnboccfaaRFds
import Derived.Test.YtfekkdmnboccfaaC2
import Derived.Test.YtfekkdmnboccfaaC3
namespace Go.Proofs.Ytfekkdmnboccfaa
set_option linter.unusedSimpArgs false
set_option linter.unusedVariables false
open Go Go.RowKit VC
theorem wrap8 (x : Int) : 0 ≤ IntKind.u8.wrap x ∧ IntKind.u8.wrap x < 256 := by
  simp only [IntKind.wrap, IntKind.bits, IntKind.signed]; simp; omega
theorem pack_range (bs : List Int) : ∀ y ∈ pack bs, 0 ≤ y ∧ y < 256 := by
  have key : ∀ (bs : List Int) (ys : List Int) (n : Nat), (∀ y ∈ ys, 0 ≤ y ∧ y < 256) → ∀ y ∈ packGo ys n bs, 0 ≤ y ∧ y < 256 := by
    intro bs
    induction bs with
    | nil => intro ys n h; exact h
    | cons b bs ih =>
      intro ys n h
      refine ih _ _ fun y hy => ?_
      unfold packStep at hy
      rcases List.mem_or_eq_of_mem_set hy with hy | rfl
      · split at hy
        · rcases List.mem_append.1 hy with hy | hy
          · exact h y hy
          · simp at hy; omega
        · exact h y hy
      · exact wrap8 _
  exact key bs [] 0 fun y hy => by simp at hy
variable {w : World} {base : Nat}
theorem bytes23_c {A : Nat} {T : TypeId} {x : Value} {bs : List Int} {g : Option Nat} (h : WrAt w base A T x bs g) (hl : bs.length ≤ 1125899906842000) :
    callV Try.prog 23 [.pointer (some ⟨A, 0, none⟩)] w fun v w' => w'.ownsRow base 5 1 v (pack bs).length ((pack bs).map (Value.int .u8)) ∧ (∀ i, v.ownBlock = some i → w.heap.size ≤ i) ∧ Fm none' w w' := by
  obtain ⟨v, h1, h2, h3, h4, h5⟩ := h
  obtain ⟨p, cp, rfl, -⟩ := own_read h2
  refine vc23 ⟨A, 0, none⟩ w _ (rd_of (v := .slice p (pack bs).length cp) (cellOf h1 rfl) ?_)
  simp only [isB_i, isK_i, isP_i, isTup_i, isInt_i, isSl_i, isPtr_i, isCs_i, isStr_i, isFn_i, isIf_i, rd_i, br_t, br_f, orO_s, orO_n, gd_t, bv_add, bv_sub, bv_mul, bv_eql, bv_neq, bv_lss, bv_leq, bv_gtr, bv_geq, bv_quo, bv_rem, bv_shl, bv_shr, bv_seq, bv_sne, bv_ptr, bv_if, bv_map, bv_nf, bv_bool, bv_sl, bv_fn, uv_not, uv_neg, eqV, nilV, nc_ptr, nc_fn, nc_if, Option.map_some, toN, Nat.mul_one, implies_true, true_and, and_true, and_self]
  have hpl := pack_length bs
  refine (clone46_c (base := base) (BytesAt.of_own h2) h5 (by omega)).mono ?_
  rintro v w1 ⟨hv, hfr, hf⟩
  obtain ⟨p1, c1, rfl, -⟩ := own_read hv
  exact ⟨hv, hfr, hf⟩
theorem reader25_c {p : Option Addr} {c : Nat} {ys : List Int} (h : BytesAt w p ys) (hy : ∀ y ∈ ys, 0 ≤ y ∧ y < 256) (hl : ys.length ≤ 140737488355328) (hb : base ≤ w.heap.size) :
    callV Try.prog 25 [.slice p ys.length c] w fun v w' => ∃ R g, v = .pointer (some ⟨R, 0, none⟩) ∧ w.heap.size ≤ R ∧ BrAt w' base R (byteBits ys) g ∧ (∀ i, g = some i → w.heap.size ≤ i) ∧ Fm none' w w' := by
  refine vc25 p ys.length c w _ ?_
  refine (clone46_c (base := base) h hb (by omega)).mono ?_
  rintro v w1 ⟨hv, hfr, hf⟩
  obtain ⟨p1, c1, rfl, -⟩ := own_read hv
  simp only [isB_i, isK_i, isP_i, isTup_i, isInt_i, isSl_i, isPtr_i, isCs_i, isStr_i, isFn_i, isIf_i, rd_i, br_t, br_f, orO_s, orO_n, gd_t, bv_add, bv_sub, bv_mul, bv_eql, bv_neq, bv_lss, bv_leq, bv_gtr, bv_geq, bv_quo, bv_rem, bv_shl, bv_shr, bv_seq, bv_sne, bv_ptr, bv_if, bv_map, bv_nf, bv_bool, bv_sl, bv_fn, uv_not, uv_neg, eqV, nilV, nc_ptr, nc_fn, nc_if, Option.map_some, toN, Nat.mul_one, implies_true, true_and, and_true, and_self]
  refine allocC_of fun w6 hb6 hs6 hf6 => ⟨_, (Value.slice p1 ys.length c1).ownBlock, rfl, hf.size, ⟨_, ys, 0, hb6, hf6.owns hv fun _ _ y => y, rfl, ?_, Nat.zero_le _, rfl, hy, hl⟩, hfr, hf.trans hf6⟩
  intro e
  have := (own_block hv e).2
  obtain ⟨cur, hc⟩ := this
  exact absurd (lt_of_blk hc) (Nat.lt_irrefl _)
theorem equal50_c {p p' : Option Addr} {c c' : Nat} {ys ys' : List Int} (h : BytesAt w p ys) (h' : BytesAt w p' ys') (hl : ys.length ≤ 140737488355328) :
    callV Try.prog 50 [.slice p ys.length c, .slice p' ys'.length c'] w fun v w' => v = .bool (decide (ys = ys')) ∧ Fm none' w w' := by
  refine vc50 p ys.length c p' ys'.length c' w _ ?_
  refine br_ndec (fun hn => ?_) (fun hn => ?_)
  · refine ⟨?_, Fm.refl _ _⟩
    rw [decide_eq_false]
    rintro rfl; exact hn rfl
  refine ⟨fun u w' => ∃ j : Nat, j ≤ ys.length ∧ u 13 = .int .i64 j ∧ ys.take j = ys'.take j ∧ Fm none' w w', fun u _ => ys.length - (intOf (u 13)).toNat, ⟨0, by omega, rfl, rfl, Fm.refl _ _⟩, ?_⟩
  rintro u w3 ⟨j, hj, h13, ht, hF⟩
  change u 13 = .int .i64 j at h13
  simp only [h13, isB_i, isK_i, isP_i, isTup_i, isInt_i, isSl_i, isPtr_i, isCs_i, isStr_i, isFn_i, isIf_i, rd_i, br_t, br_f, orO_s, orO_n, gd_t, bv_add, bv_sub, bv_mul, bv_eql, bv_neq, bv_lss, bv_leq, bv_gtr, bv_geq, bv_quo, bv_rem, bv_shl, bv_shr, bv_seq, bv_sne, bv_ptr, bv_if, bv_map, bv_nf, bv_bool, bv_sl, bv_fn, uv_not, uv_neg, eqV, nilV, nc_ptr, nc_fn, nc_if, Option.map_some, toN, Nat.mul_one, implies_true, true_and, and_true, and_self]
  have hll : ys.length = ys'.length := by omega
  refine br_dec (fun hjn => ?_) (fun hjn => ?_)
  · obtain ⟨y, hy⟩ : ∃ y, ys[j]? = some y := ⟨ys[j]'(by omega), by simp⟩
    obtain ⟨y', hy'⟩ : ∃ y', ys'[j]? = some y' := ⟨ys'[j]'(by omega), by simp⟩
    obtain ⟨ad, rfl, hc⟩ := h j y hy
    obtain ⟨ad', rfl, hc'⟩ := h' j y' hy'
    have hFd : Fm none' w w3.drew := hF.trans (Fm.drew w3)
    simp only [isB_i, isK_i, isP_i, isTup_i, isInt_i, isSl_i, isPtr_i, isCs_i, isStr_i, isFn_i, isIf_i, rd_i, br_t, br_f, orO_s, orO_n, gd_t, bv_add, bv_sub, bv_mul, bv_eql, bv_neq, bv_lss, bv_leq, bv_gtr, bv_geq, bv_quo, bv_rem, bv_shl, bv_shr, bv_seq, bv_sne, bv_ptr, bv_if, bv_map, bv_nf, bv_bool, bv_sl, bv_fn, uv_not, uv_neg, eqV, nilV, nc_ptr, nc_fn, nc_if, Option.map_some, toN, Nat.mul_one, implies_true, true_and, and_true, and_self]
    refine ⟨by omega, rd_of (hFd.cell hc id) ?_⟩
    simp only [isB_i, isK_i, isP_i, isTup_i, isInt_i, isSl_i, isPtr_i, isCs_i, isStr_i, isFn_i, isIf_i, rd_i, br_t, br_f, orO_s, orO_n, gd_t, bv_add, bv_sub, bv_mul, bv_eql, bv_neq, bv_lss, bv_leq, bv_gtr, bv_geq, bv_quo, bv_rem, bv_shl, bv_shr, bv_seq, bv_sne, bv_ptr, bv_if, bv_map, bv_nf, bv_bool, bv_sl, bv_fn, uv_not, uv_neg, eqV, nilV, nc_ptr, nc_fn, nc_if, Option.map_some, toN, Nat.mul_one, implies_true, true_and, and_true, and_self]
    refine ⟨by omega, rd_of (hFd.cell hc' id) ?_⟩
    simp only [isB_i, isK_i, isP_i, isTup_i, isInt_i, isSl_i, isPtr_i, isCs_i, isStr_i, isFn_i, isIf_i, rd_i, br_t, br_f, orO_s, orO_n, gd_t, bv_add, bv_sub, bv_mul, bv_eql, bv_neq, bv_lss, bv_leq, bv_gtr, bv_geq, bv_quo, bv_rem, bv_shl, bv_shr, bv_seq, bv_sne, bv_ptr, bv_if, bv_map, bv_nf, bv_bool, bv_sl, bv_fn, uv_not, uv_neg, eqV, nilV, nc_ptr, nc_fn, nc_if, Option.map_some, toN, Nat.mul_one, implies_true, true_and, and_true, and_self]
    refine br_ndec (fun he => ?_) (fun he => ?_)
    · refine ⟨?_, hFd⟩
      rw [decide_eq_false]
      rintro rfl
      rw [hy] at hy'; cases hy'; exact he rfl
    · subst he
      rw [w64 (by omega)]
      refine ⟨⟨j + 1, by omega, rfl, ?_, hFd⟩, ?_⟩
      · rw [List.take_add_one, List.take_add_one, hy, hy', ht]
      · show ys.length - ((j : Int) + 1).toNat < ys.length - (j : Int).toNat; omega
  · have : j = ys.length := by omega
    subst this
    rw [List.take_length, hll, List.take_length] at ht
    refine ⟨?_, hF⟩
    rw [decide_eq_true ht]
def restOk (rem : List Int) : Bool := (rem.all fun b => decide (b = 0)) && decide (rem.length < 8)
theorem rest32_c {R : Nat} {rem : List Int} {g : Option Nat} (h : BrAt w base R rem g) : callV Try.prog 32 [.pointer (some ⟨R, 0, none⟩)] w fun v w' => v = .bool (restOk rem) ∧ Fm none' w w' := by
  have hbr := h
  obtain ⟨v, Y, n, h1, h2, h3, h4, h5, h5', h6, h7⟩ := h
  obtain ⟨p, cp, rfl, -⟩ := own_read h2
  have hrl : rem.length = 8 * Y.length - n := by rw [h5', List.length_drop, byteBits_length]
  refine vc32 ⟨R, 0, none⟩ w _ ?_
  simp only [addr_add, Nat.zero_add]
  refine rd_of (v := .int .i64 n) (cellOf h1 rfl) ?_
  simp only [isB_i, isK_i, isP_i, isTup_i, isInt_i, isSl_i, isPtr_i, isCs_i, isStr_i, isFn_i, isIf_i, rd_i, br_t, br_f, orO_s, orO_n, gd_t, bv_add, bv_sub, bv_mul, bv_eql, bv_neq, bv_lss, bv_leq, bv_gtr, bv_geq, bv_quo, bv_rem, bv_shl, bv_shr, bv_seq, bv_sne, bv_ptr, bv_if, bv_map, bv_nf, bv_bool, bv_sl, bv_fn, uv_not, uv_neg, eqV, nilV, nc_ptr, nc_fn, nc_if, Option.map_some, toN, Nat.mul_one, implies_true, true_and, and_true, and_self]
  refine ⟨fun u w' => ∃ j : Nat, j ≤ rem.length ∧ u 3 = .int .i64 ((n + j : Nat) : Int) ∧ (∀ b ∈ rem.take j, b = 0) ∧ w' = w, fun u _ => 8 * Y.length - (intOf (u 3)).toNat, ⟨0, by omega, rfl, by simp, rfl⟩, ?_⟩
  rintro u w5 ⟨j, hj, h3', hz, rfl⟩
  change u 3 = .int .i64 ((n + j : Nat) : Int) at h3'
  simp only [h3', isB_i, isK_i, isP_i, isTup_i, isInt_i, isSl_i, isPtr_i, isCs_i, isStr_i, isFn_i, isIf_i, rd_i, br_t, br_f, orO_s, orO_n, gd_t, bv_add, bv_sub, bv_mul, bv_eql, bv_neq, bv_lss, bv_leq, bv_gtr, bv_geq, bv_quo, bv_rem, bv_shl, bv_shr, bv_seq, bv_sne, bv_ptr, bv_if, bv_map, bv_nf, bv_bool, bv_sl, bv_fn, uv_not, uv_neg, eqV, nilV, nc_ptr, nc_fn, nc_if, Option.map_some, toN, Nat.mul_one, implies_true, true_and, and_true, and_self]
  refine rd_of (v := .slice p Y.length cp) (cellOf h1 rfl) ?_
  simp only [isB_i, isK_i, isP_i, isTup_i, isInt_i, isSl_i, isPtr_i, isCs_i, isStr_i, isFn_i, isIf_i, rd_i, br_t, br_f, orO_s, orO_n, gd_t, bv_add, bv_sub, bv_mul, bv_eql, bv_neq, bv_lss, bv_leq, bv_gtr, bv_geq, bv_quo, bv_rem, bv_shl, bv_shr, bv_seq, bv_sne, bv_ptr, bv_if, bv_map, bv_nf, bv_bool, bv_sl, bv_fn, uv_not, uv_neg, eqV, nilV, nc_ptr, nc_fn, nc_if, Option.map_some, toN, Nat.mul_one, implies_true, true_and, and_true, and_self]
  rw [w64 (n := (Y.length : Int) * 8) (by omega)]
  refine br_dec (fun hjn => ?_) (fun hjn => ?_)
  · obtain ⟨b, hb⟩ : ∃ b, rem[j]? = some b := ⟨rem[j]'(by omega), by simp⟩
    have hb' : (byteBits Y)[n + j]? = some b := by rw [h5', List.getElem?_drop] at hb; exact hb
    refine (bit52_c h1 h2 h6 h7 hb').mono ?_
    rintro _ w14 ⟨rfl, rfl⟩
    simp only [isB_i, isK_i, isP_i, isTup_i, isInt_i, isSl_i, isPtr_i, isCs_i, isStr_i, isFn_i, isIf_i, rd_i, br_t, br_f, orO_s, orO_n, gd_t, bv_add, bv_sub, bv_mul, bv_eql, bv_neq, bv_lss, bv_leq, bv_gtr, bv_geq, bv_quo, bv_rem, bv_shl, bv_shr, bv_seq, bv_sne, bv_ptr, bv_if, bv_map, bv_nf, bv_bool, bv_sl, bv_fn, uv_not, uv_neg, eqV, nilV, nc_ptr, nc_fn, nc_if, Option.map_some, toN, Nat.mul_one, implies_true, true_and, and_true, and_self]
    refine br_ndec (fun he => ?_) (fun he => ?_)
    · refine ⟨?_, Fm.refl _ _⟩
      have : (rem.all fun b => decide (b = 0)) = false := by
        rw [List.all_eq_false]
        exact ⟨b, List.mem_of_getElem? hb, by simp [he]⟩
      unfold restOk; rw [this]; rfl
    · rw [w64 (by omega)]
      refine ⟨⟨j + 1, by omega, ?_, ?_, rfl⟩, ?_⟩
      · show Value.int .i64 _ = _
        congr 1
      · rw [List.take_add_one, hb]
        intro x hx
        rcases List.mem_append.1 hx with hx | hx
        · exact hz x hx
        · simp at hx; omega
      · show 8 * Y.length - (((n + j : Nat) : Int) + 1).toNat < 8 * Y.length - ((n + j : Nat) : Int).toNat; omega
  · have : j = rem.length := by omega
    subst this
    rw [List.take_length] at hz
    refine (left53_c hbr).mono ?_
    rintro _ w18 ⟨rfl, rfl⟩
    simp only [isB_i, isK_i, isP_i, isTup_i, isInt_i, isSl_i, isPtr_i, isCs_i, isStr_i, isFn_i, isIf_i, rd_i, br_t, br_f, orO_s, orO_n, gd_t, bv_add, bv_sub, bv_mul, bv_eql, bv_neq, bv_lss, bv_leq, bv_gtr, bv_geq, bv_quo, bv_rem, bv_shl, bv_shr, bv_seq, bv_sne, bv_ptr, bv_if, bv_map, bv_nf, bv_bool, bv_sl, bv_fn, uv_not, uv_neg, eqV, nilV, nc_ptr, nc_fn, nc_if, Option.map_some, toN, Nat.mul_one, implies_true, true_and, and_true, and_self]
    refine ⟨?_, Fm.drew _⟩
    have : (rem.all fun b => decide (b = 0)) = true := by
      rw [List.all_eq_true]
      exact fun x hx => by simp [hz x hx]
    unfold restOk
    rw [this, Bool.true_and]
    congr 1
    rw [decide_eq_decide]; omega
def sameP (a b : Msg) : Prop := a.kind = b.kind ∧ a.seq = b.seq ∧ a.cq = b.cq ∧ a.cb = b.cb ∧ a.cdx = b.cdx ∧ a.cdy = b.cdy ∧ a.ct = b.ct ∧ a.prov = b.prov ∧ a.id = b.id ∧ a.shot = b.shot ∧ a.d0 = b.d0 ∧ a.d1 = b.d1 ∧ a.d2 = b.d2 ∧ a.why = b.why ∧ a.p0 = b.p0 ∧ a.p1 = b.p1 ∧ a.p2 = b.p2 ∧ a.v0 = b.v0 ∧ a.v1 = b.v1 ∧ a.v2 = b.v2 ∧ a.tick = b.tick ∧ a.bse = b.bse ∧ a.bytes = b.bytes
instance (a b : Msg) : Decidable (sameP a b) := by unfold sameP; infer_instance
theorem sameP_iff (a b : Msg) : sameP a b ↔ a = b := by
  cases a; cases b; simp [sameP]
instance : DecidableEq Msg := fun a b => decidable_of_iff (sameP a b) (sameP_iff a b)
end Go.Proofs.Ytfekkdmnboccfaa
