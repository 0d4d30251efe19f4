/- RingTableRoom comes to true and turns nothing that was there.  Conditions: the argument's cells hold bytes. -/
import Derived.Test.YtlhgibiffekpfaaShown
import Derived.Test.YtlhgibiffekpfaaC1
namespace Go.Proofs.Ytlhgibiffekpfaa
set_option linter.unusedSimpArgs false
set_option linter.unusedVariables false
open Go Go.RowKit VC
theorem delM_keys {α : Type} {k x : Int} : ∀ {l : List (Int × α)}, x ∈ (delM k l).map (·.1) → x ∈ l.map (·.1) := by
  intro l
  induction l with
  | nil => intro h; exact h
  | cons p l ih =>
    simp only [delM]
    split
    · intro h; exact List.mem_cons_of_mem _ h
    · intro h
      simp only [List.map_cons, List.mem_cons] at h ⊢
      exact h.imp id ih
theorem delM_length {α : Type} {k : Int} : ∀ {l : List (Int × α)}, (delM k l).length = if (getM k l).isSome then l.length - 1 else l.length := by
  intro l
  induction l with
  | nil => rfl
  | cons p l ih =>
    simp only [delM, getM]
    split
    · simp
    · simp only [List.length_cons, ih]
      cases h : getM k l with
      | none => rfl
      | some v =>
        have : 0 < l.length := by cases l with | nil => simp [getM] at h | cons _ _ => simp
        simp only [Option.isSome_some, if_true]; omega
/-- A table of n things, whose ids end at last. -/
def Tb (B M : Nat) (m : Nat) (w : World) (n last : Nat) : Prop := ∃ l, TabAt Value.string 88 w B M m last l ∧ l.length = n ∧ ∀ x ∈ l.map (fun p : Int × ByteArray => p.1), x ≤ (last : Int)
variable {B M m : Nat} {w : World} {n last : Nat}
theorem addRoom (x : ByteArray) (h : Tb B M m w n last) (hn : n < m) (hl : last < 1000) : callV Try.prog 23 [.pointer (some ⟨B, 0, none⟩), .string x] w fun v w' => v = .tuple #[.int .i64 (last + 1 : Nat), .int .i64 0] ∧ Tb B M m w' (n + 1) (last + 1) ∧ Fm (fun i => i = B ∨ i = M) w w' := by
  obtain ⟨l, h1, h2, h3⟩ := h
  refine (add23_c x h1 (by omega)).mono ?_
  rintro v w' ⟨rfl, h4, h5⟩
  have hg : getM ((last : Int) + 1) l = none := getM_mem.2 fun h => by have := h3 _ h; omega
  rw [if_neg (by omega), if_neg (by omega), setM_none hg] at h4
  refine ⟨by rw [if_neg (by omega)]; rfl, ⟨_, h4, by simp [h2], ?_⟩, h5⟩
  intro y hy
  simp only [List.map_append, List.mem_append, List.map_cons, List.map_nil, List.mem_singleton] at hy
  rcases hy with hy | hy
  · have := h3 _ hy; omega
  · omega
theorem addFull (x : ByteArray) (h : Tb B M m w m last) (hl : last < 1000) : callV Try.prog 23 [.pointer (some ⟨B, 0, none⟩), .string x] w fun v w' => v = .tuple #[.int .i64 0, .int .i64 5] ∧ Tb B M m w' m last ∧ Fm (fun i => i = B ∨ i = M) w w' := by
  obtain ⟨l, h1, h2, h3⟩ := h
  refine (add23_c x h1 (by omega)).mono ?_
  rintro v w' ⟨rfl, h4, h5⟩
  rw [if_pos (by omega), if_pos (by omega)] at h4
  exact ⟨by rw [if_pos (by omega)], ⟨_, h4, h2, h3⟩, h5⟩
theorem dropPut (k : Int) (x : ByteArray) {Q : Value → World → Prop} (h : Tb B M m w n last) (hn : n ≤ m) (hm : 0 < m)
    (hq : ∀ (b : Bool) (w' : World), (b = true → 0 < n) → Tb B M m w' (if b then n - 1 else n) last → Fm (fun i => i = M) w w' →
      callV Try.prog 25 [.pointer (some ⟨B, 0, none⟩), .int .i64 k, .string x] w' (fun v w'' => v = .bool false ∧ Tb B M m w'' (if b then n - 1 else n) last ∧ Fm (fun i => i = M) w w'') → Q (.bool b) w') :
    callV Try.prog 24 [.pointer (some ⟨B, 0, none⟩), .int .i64 k] w Q := by
  obtain ⟨l, h1, h2, h3⟩ := h
  refine (drop24_c k h1).mono ?_
  rintro v w' ⟨rfl, h4, h5⟩
  have hlen : (delM k l).length = if (getM k l).isSome then n - 1 else n := by rw [delM_length, h2]
  have hk : ∀ x ∈ (delM k l).map (·.1), x ≤ (last : Int) := fun y hy => h3 y (delM_keys hy)
  refine hq _ w' ?_ ⟨_, h4, hlen, hk⟩ h5 ?_
  · intro hs
    cases l with
    | nil => simp [getM] at hs
    | cons _ _ => simp at h2; omega
  · refine (put25_c k x h4).mono ?_
    rintro v w'' ⟨rfl, h6, h7⟩
    have hg := getM_del (k := k) h1.2.nodup
    rw [hg] at h6 ⊢
    exact ⟨rfl, ⟨_, h6, hlen, hk⟩, h5.trans h7⟩
theorem br_and {A B : Prop} [Decidable A] [Decidable B] {X Y : Prop} (h1 : A → B → X) (h2 : ¬ (A ∧ B) → Y) : br (decide A) (br (decide B) X Y) Y :=
  br_dec (fun a => br_dec (h1 a) (fun b => h2 fun h => b h.2)) (fun a => h2 fun h => a h.1)
set_option maxHeartbeats 1000000 in
set_option maxRecDepth 20000 in
theorem room_c (a : Int) (bp : Option Addr) (bn bc : Nat) (ss : Nat → Int) (W : World) (hl : ∀ i, i < bn → (∃ ad, bp = some ad ∧ W.cell? (ad.add i) = some (.int .u8 (ss i))) ∧ 0 ≤ ss i ∧ ss i < 256) :
    callV Try.prog 5 [.int .i64 a, .slice bp bn bc] W fun v w' => v = .bool true ∧ Fm none' W w' := by
  refine vc5 a bp bn bc W _ ?_
  obtain ⟨m, hm, hm1, hm2⟩ : ∃ m : Nat, IntKind.i64.wrap (1 + Int.tmod (andI .i64 a 65535) 30) = m ∧ 1 ≤ m ∧ m ≤ 30 := by
    obtain ⟨h1, h2⟩ := andI_le a 65535 (by omega)
    have h3 : Int.tmod (andI .i64 a 65535) 30 = andI .i64 a 65535 % 30 := Int.tmod_eq_emod_of_nonneg h1
    rw [h3, w64 (by omega)]
    exact ⟨(1 + andI .i64 a 65535 % 30).toNat, by omega, by omega, by omega⟩
  refine (shown_c W).mono ?_
  rintro _ w1 ⟨rfl, hf1⟩
  simp only [hm, isB_i, isK_i, isP_i, isTup_i, isInt_i, isSl_i, isPtr_i, isCs_i, isStr_i, isFn_i, isIf_i, rd_i, br_t, br_f, orO_s, orO_n, gd_t, bv_add, bv_sub, bv_mul, bv_eql, bv_neq, bv_lss, bv_leq, bv_gtr, bv_geq, bv_quo, bv_rem, bv_shl, bv_shr, bv_seq, bv_sne, bv_ptr, bv_if, bv_map, bv_nf, bv_bool, bv_sl, bv_fn, uv_not, uv_neg, eqV, nilV, nc_ptr, nc_fn, nc_if, Option.map_some, toN, Nat.mul_one, implies_true, true_and, and_true, and_self]
  refine (new22_c m w1).mono ?_
  rintro _ w4 ⟨B, M, rfl, hB, hM, hr, hf4⟩
  have hF := hf1.trans hf4
  have s1 := hf1.size
  rw [show max (m : Int) 1 = m by omega] at hr
  simp only [isB_i, isK_i, isP_i, isTup_i, isInt_i, isSl_i, isPtr_i, isCs_i, isStr_i, isFn_i, isIf_i, rd_i, br_t, br_f, orO_s, orO_n, gd_t, bv_add, bv_sub, bv_mul, bv_eql, bv_neq, bv_lss, bv_leq, bv_gtr, bv_geq, bv_quo, bv_rem, bv_shl, bv_shr, bv_seq, bv_sne, bv_ptr, bv_if, bv_map, bv_nf, bv_bool, bv_sl, bv_fn, uv_not, uv_neg, eqV, nilV, nc_ptr, nc_fn, nc_if, Option.map_some, toN, Nat.mul_one, implies_true, true_and, and_true, and_self, Option.isNone_some]
  have keep : ∀ {w w' : World}, Fm none' W w → Fm (fun i => i = B ∨ i = M) w w' → Fm none' W w' := fun h h' => h.trans' h' (by rintro i hi (rfl | rfl) <;> omega)
  have keep' : ∀ {w w' : World}, Fm none' W w → Fm (fun i => i = M) w w' → Fm none' W w' := fun h h' => h.trans' h' (by rintro i hi rfl; omega)
  refine ⟨fun _ w' => Tb B M m w' m m ∧ Fm none' W w', ?_, ?_⟩
  · refine ⟨fun u w' => ∃ k : Nat, k ≤ m ∧ u 7 = .int .i64 k ∧ Tb B M m w' k k ∧ Fm none' W w', fun u _ => m - (intOf (u 7)).toNat, ⟨0, by omega, rfl, ⟨[], hr, rfl, by simp⟩, hF⟩, ?_⟩
    rintro u w10 ⟨k, hk, h7, hr, hf⟩
    change u 7 = .int .i64 k at h7
    simp only [h7, isB_i, isK_i, isP_i, isTup_i, isInt_i, isSl_i, isPtr_i, isCs_i, isStr_i, isFn_i, isIf_i, rd_i, br_t, br_f, orO_s, orO_n, gd_t, bv_add, bv_sub, bv_mul, bv_eql, bv_neq, bv_lss, bv_leq, bv_gtr, bv_geq, bv_quo, bv_rem, bv_shl, bv_shr, bv_seq, bv_sne, bv_ptr, bv_if, bv_map, bv_nf, bv_bool, bv_sl, bv_fn, uv_not, uv_neg, eqV, nilV, nc_ptr, nc_fn, nc_if, Option.map_some, toN, Nat.mul_one, implies_true, true_and, and_true, and_self]
    refine br_dec (fun hkn => ?_) (fun hkn => ?_)
    · refine (addRoom _ hr (by omega) (by omega)).mono ?_
      rintro _ w14 ⟨rfl, hr2, hf2⟩
      simp only [isB_i, isK_i, isP_i, isTup_i, isInt_i, isSl_i, isPtr_i, isCs_i, isStr_i, isFn_i, isIf_i, rd_i, br_t, br_f, orO_s, orO_n, gd_t, bv_add, bv_sub, bv_mul, bv_eql, bv_neq, bv_lss, bv_leq, bv_gtr, bv_geq, bv_quo, bv_rem, bv_shl, bv_shr, bv_seq, bv_sne, bv_ptr, bv_if, bv_map, bv_nf, bv_bool, bv_sl, bv_fn, uv_not, uv_neg, eqV, nilV, nc_ptr, nc_fn, nc_if, Option.map_some, toN, Nat.mul_one, implies_true, true_and, and_true, and_self, List.getElem?_cons_zero, List.getElem?_cons_succ]
      refine br_ndec (fun h => by simp at h) (fun _ => ?_)
      rw [w64 (by omega)]
      refine ⟨⟨k + 1, by omega, rfl, hr2, keep hf hf2⟩, ?_⟩
      show m - ((k : Int) + 1).toNat < m - (k : Int).toNat; omega
    · have : k = m := by omega
      subst this
      exact ⟨hr, hf⟩
  rintro _ w24 ⟨hr, hF⟩
  refine (addFull _ hr (by omega)).mono ?_
  rintro _ w27 ⟨rfl, hr, hf⟩
  have hF := keep hF hf
  simp only [isB_i, isK_i, isP_i, isTup_i, isInt_i, isSl_i, isPtr_i, isCs_i, isStr_i, isFn_i, isIf_i, rd_i, br_t, br_f, orO_s, orO_n, gd_t, bv_add, bv_sub, bv_mul, bv_eql, bv_neq, bv_lss, bv_leq, bv_gtr, bv_geq, bv_quo, bv_rem, bv_shl, bv_shr, bv_seq, bv_sne, bv_ptr, bv_if, bv_map, bv_nf, bv_bool, bv_sl, bv_fn, uv_not, uv_neg, eqV, nilV, nc_ptr, nc_fn, nc_if, Option.map_some, toN, Nat.mul_one, implies_true, true_and, and_true, and_self, List.getElem?_cons_zero, List.getElem?_cons_succ]
  refine ⟨fun u w' => ∃ g k : Nat, g ≤ m ∧ g ≤ k ∧ k ≤ 60 ∧ u 12 = .int .i64 g ∧ u 13 = .int .i64 k ∧ Tb B M m w' (m - g) m ∧ Fm none' W w', fun u _ => 60 - (intOf (u 13)).toNat, ⟨0, 0, by omega, by omega, by omega, rfl, rfl, hr, hF⟩, ?_⟩
  rintro u w37 ⟨g, k, hgm, hgk, hk, h12, h13, hr, hF⟩
  change u 12 = .int .i64 g at h12
  change u 13 = .int .i64 k at h13
  simp only [h12, h13, isB_i, isK_i, isP_i, isTup_i, isInt_i, isSl_i, isPtr_i, isCs_i, isStr_i, isFn_i, isIf_i, rd_i, br_t, br_f, orO_s, orO_n, gd_t, bv_add, bv_sub, bv_mul, bv_eql, bv_neq, bv_lss, bv_leq, bv_gtr, bv_geq, bv_quo, bv_rem, bv_shl, bv_shr, bv_seq, bv_sne, bv_ptr, bv_if, bv_map, bv_nf, bv_bool, bv_sl, bv_fn, uv_not, uv_neg, eqV, nilV, nc_ptr, nc_fn, nc_if, Option.map_some, toN, Nat.mul_one, implies_true, true_and, and_true, and_self]
  refine br_and (fun hkn hk6 => ?_) (fun _ => ?_)
  · obtain ⟨⟨ad, rfl, hc⟩, hs⟩ := hl k (by omega)
    simp only [isB_i, isK_i, isP_i, isTup_i, isInt_i, isSl_i, isPtr_i, isCs_i, isStr_i, isFn_i, isIf_i, rd_i, br_t, br_f, orO_s, orO_n, gd_t, bv_add, bv_sub, bv_mul, bv_eql, bv_neq, bv_lss, bv_leq, bv_gtr, bv_geq, bv_quo, bv_rem, bv_shl, bv_shr, bv_seq, bv_sne, bv_ptr, bv_if, bv_map, bv_nf, bv_bool, bv_sl, bv_fn, uv_not, uv_neg, eqV, nilV, nc_ptr, nc_fn, nc_if, Option.map_some, toN, Nat.mul_one, implies_true, true_and, and_true, and_self]
    refine ⟨by omega, rd_of (hF.cell hc id) ?_⟩
    simp only [isB_i, isK_i, isP_i, isTup_i, isInt_i, isSl_i, isPtr_i, isCs_i, isStr_i, isFn_i, isIf_i, rd_i, br_t, br_f, orO_s, orO_n, gd_t, bv_add, bv_sub, bv_mul, bv_eql, bv_neq, bv_lss, bv_leq, bv_gtr, bv_geq, bv_quo, bv_rem, bv_shl, bv_shr, bv_seq, bv_sne, bv_ptr, bv_if, bv_map, bv_nf, bv_bool, bv_sl, bv_fn, uv_not, uv_neg, eqV, nilV, nc_ptr, nc_fn, nc_if, Option.map_some, toN, Nat.mul_one, implies_true, true_and, and_true, and_self]
    rw [dv_ne _ (by omega), w64 (by omega)]
    simp only [isB_i, isK_i, isP_i, isTup_i, isInt_i, isSl_i, isPtr_i, isCs_i, isStr_i, isFn_i, isIf_i, rd_i, br_t, br_f, orO_s, orO_n, gd_t, bv_add, bv_sub, bv_mul, bv_eql, bv_neq, bv_lss, bv_leq, bv_gtr, bv_geq, bv_quo, bv_rem, bv_shl, bv_shr, bv_seq, bv_sne, bv_ptr, bv_if, bv_map, bv_nf, bv_bool, bv_sl, bv_fn, uv_not, uv_neg, eqV, nilV, nc_ptr, nc_fn, nc_if, Option.map_some, toN, Nat.mul_one, implies_true, true_and, and_true, and_self]
    generalize IntKind.i64.wrap (1 + (ss k).tmod m) = q
    refine dropPut q ⟨#[99]⟩ hr (by omega) (by omega) ?_
    intro b w48 hb hr2 hf2 hp
    simp only [isB_i, isK_i, isP_i, isTup_i, isInt_i, isSl_i, isPtr_i, isCs_i, isStr_i, isFn_i, isIf_i, rd_i, br_t, br_f, orO_s, orO_n, gd_t, bv_add, bv_sub, bv_mul, bv_eql, bv_neq, bv_lss, bv_leq, bv_gtr, bv_geq, bv_quo, bv_rem, bv_shl, bv_shr, bv_seq, bv_sne, bv_ptr, bv_if, bv_map, bv_nf, bv_bool, bv_sl, bv_fn, uv_not, uv_neg, eqV, nilV, nc_ptr, nc_fn, nc_if, Option.map_some, toN, Nat.mul_one, implies_true, true_and, and_true, and_self]
    cases b with
    | true =>
      simp only [isB_i, isK_i, isP_i, isTup_i, isInt_i, isSl_i, isPtr_i, isCs_i, isStr_i, isFn_i, isIf_i, rd_i, br_t, br_f, orO_s, orO_n, gd_t, bv_add, bv_sub, bv_mul, bv_eql, bv_neq, bv_lss, bv_leq, bv_gtr, bv_geq, bv_quo, bv_rem, bv_shl, bv_shr, bv_seq, bv_sne, bv_ptr, bv_if, bv_map, bv_nf, bv_bool, bv_sl, bv_fn, uv_not, uv_neg, eqV, nilV, nc_ptr, nc_fn, nc_if, Option.map_some, toN, Nat.mul_one, implies_true, true_and, and_true, and_self]
      refine hp.mono ?_
      rintro _ w52 ⟨rfl, hr3, hf3⟩
      have := hb rfl
      simp only [isB_i, isK_i, isP_i, isTup_i, isInt_i, isSl_i, isPtr_i, isCs_i, isStr_i, isFn_i, isIf_i, rd_i, br_t, br_f, orO_s, orO_n, gd_t, bv_add, bv_sub, bv_mul, bv_eql, bv_neq, bv_lss, bv_leq, bv_gtr, bv_geq, bv_quo, bv_rem, bv_shl, bv_shr, bv_seq, bv_sne, bv_ptr, bv_if, bv_map, bv_nf, bv_bool, bv_sl, bv_fn, uv_not, uv_neg, eqV, nilV, nc_ptr, nc_fn, nc_if, Option.map_some, toN, Nat.mul_one, implies_true, true_and, and_true, and_self, if_true] at hr3 ⊢
      rw [w64 (by omega), w64 (by omega)]
      refine ⟨⟨g + 1, k + 1, by omega, by omega, by omega, rfl, rfl, by rw [show m - (g + 1) = m - g - 1 by omega]; exact hr3, keep' hF hf3⟩, ?_⟩
      show 60 - ((k : Int) + 1).toNat < 60 - (k : Int).toNat; omega
    | false =>
      simp only [isB_i, isK_i, isP_i, isTup_i, isInt_i, isSl_i, isPtr_i, isCs_i, isStr_i, isFn_i, isIf_i, rd_i, br_t, br_f, orO_s, orO_n, gd_t, bv_add, bv_sub, bv_mul, bv_eql, bv_neq, bv_lss, bv_leq, bv_gtr, bv_geq, bv_quo, bv_rem, bv_shl, bv_shr, bv_seq, bv_sne, bv_ptr, bv_if, bv_map, bv_nf, bv_bool, bv_sl, bv_fn, uv_not, uv_neg, eqV, nilV, nc_ptr, nc_fn, nc_if, Option.map_some, toN, Nat.mul_one, implies_true, true_and, and_true, and_self]
      refine hp.mono ?_
      rintro _ w52 ⟨rfl, hr3, hf3⟩
      simp only [isB_i, isK_i, isP_i, isTup_i, isInt_i, isSl_i, isPtr_i, isCs_i, isStr_i, isFn_i, isIf_i, rd_i, br_t, br_f, orO_s, orO_n, gd_t, bv_add, bv_sub, bv_mul, bv_eql, bv_neq, bv_lss, bv_leq, bv_gtr, bv_geq, bv_quo, bv_rem, bv_shl, bv_shr, bv_seq, bv_sne, bv_ptr, bv_if, bv_map, bv_nf, bv_bool, bv_sl, bv_fn, uv_not, uv_neg, eqV, nilV, nc_ptr, nc_fn, nc_if, Option.map_some, toN, Nat.mul_one, implies_true, true_and, and_true, and_self, Bool.false_eq_true, if_false] at hr3 ⊢
      rw [w64 (by omega)]
      refine ⟨⟨g, k + 1, by omega, by omega, by omega, rfl, rfl, hr3, keep' hF hf3⟩, ?_⟩
      show 60 - ((k : Int) + 1).toNat < 60 - (k : Int).toNat; omega
  · refine ⟨fun u w' => ∃ k : Nat, k ≤ g ∧ u 15 = .int .i64 k ∧ Tb B M m w' (m - g + k) (m + k) ∧ Fm none' W w', fun u _ => g - (intOf (u 15)).toNat, ⟨0, by omega, rfl, hr, hF⟩, ?_⟩
    rintro u w62 ⟨i, hi, h15, hr, hf⟩
    change u 15 = .int .i64 i at h15
    simp only [h15, isB_i, isK_i, isP_i, isTup_i, isInt_i, isSl_i, isPtr_i, isCs_i, isStr_i, isFn_i, isIf_i, rd_i, br_t, br_f, orO_s, orO_n, gd_t, bv_add, bv_sub, bv_mul, bv_eql, bv_neq, bv_lss, bv_leq, bv_gtr, bv_geq, bv_quo, bv_rem, bv_shl, bv_shr, bv_seq, bv_sne, bv_ptr, bv_if, bv_map, bv_nf, bv_bool, bv_sl, bv_fn, uv_not, uv_neg, eqV, nilV, nc_ptr, nc_fn, nc_if, Option.map_some, toN, Nat.mul_one, implies_true, true_and, and_true, and_self]
    refine br_dec (fun hkn => ?_) (fun hkn => ?_)
    · refine (addRoom _ hr (by omega) (by omega)).mono ?_
      rintro _ w14 ⟨rfl, hr2, hf2⟩
      simp only [isB_i, isK_i, isP_i, isTup_i, isInt_i, isSl_i, isPtr_i, isCs_i, isStr_i, isFn_i, isIf_i, rd_i, br_t, br_f, orO_s, orO_n, gd_t, bv_add, bv_sub, bv_mul, bv_eql, bv_neq, bv_lss, bv_leq, bv_gtr, bv_geq, bv_quo, bv_rem, bv_shl, bv_shr, bv_seq, bv_sne, bv_ptr, bv_if, bv_map, bv_nf, bv_bool, bv_sl, bv_fn, uv_not, uv_neg, eqV, nilV, nc_ptr, nc_fn, nc_if, Option.map_some, toN, Nat.mul_one, implies_true, true_and, and_true, and_self, List.getElem?_cons_zero, List.getElem?_cons_succ]
      refine br_ndec (fun h => by simp at h) (fun _ => ?_)
      rw [w64 (n := (m : Int) + 1) (by omega), w64 (by omega), w64 (by omega)]
      refine br_ndec (fun h => absurd (by omega) h) (fun _ => ?_)
      refine ⟨⟨i + 1, by omega, rfl, hr2, keep hf hf2⟩, ?_⟩
      show g - ((i : Int) + 1).toNat < g - (i : Int).toNat; omega
    · have : i = g := by omega
      subst this
      rw [show m - i + i = m by omega] at hr
      refine (addFull _ hr (by omega)).mono ?_
      rintro _ w27 ⟨rfl, hr, hf2⟩
      simp only [isB_i, isK_i, isP_i, isTup_i, isInt_i, isSl_i, isPtr_i, isCs_i, isStr_i, isFn_i, isIf_i, rd_i, br_t, br_f, orO_s, orO_n, gd_t, bv_add, bv_sub, bv_mul, bv_eql, bv_neq, bv_lss, bv_leq, bv_gtr, bv_geq, bv_quo, bv_rem, bv_shl, bv_shr, bv_seq, bv_sne, bv_ptr, bv_if, bv_map, bv_nf, bv_bool, bv_sl, bv_fn, uv_not, uv_neg, eqV, nilV, nc_ptr, nc_fn, nc_if, Option.map_some, toN, Nat.mul_one, implies_true, true_and, and_true, and_self, List.getElem?_cons_zero, List.getElem?_cons_succ]
      obtain ⟨l, h1, h2, h3⟩ := hr
      refine (len26_c h1).mono ?_
      rintro _ w27 ⟨rfl, rfl⟩
      simp only [isB_i, isK_i, isP_i, isTup_i, isInt_i, isSl_i, isPtr_i, isCs_i, isStr_i, isFn_i, isIf_i, rd_i, br_t, br_f, orO_s, orO_n, gd_t, bv_add, bv_sub, bv_mul, bv_eql, bv_neq, bv_lss, bv_leq, bv_gtr, bv_geq, bv_quo, bv_rem, bv_shl, bv_shr, bv_seq, bv_sne, bv_ptr, bv_if, bv_map, bv_nf, bv_bool, bv_sl, bv_fn, uv_not, uv_neg, eqV, nilV, nc_ptr, nc_fn, nc_if, Option.map_some, toN, Nat.mul_one, implies_true, true_and, and_true, and_self]
      exact ⟨by simp [h2], keep hf hf2⟩
end Go.Proofs.Ytlhgibiffekpfaa
