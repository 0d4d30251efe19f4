/- bits, message: what a reader does.  Conditions: the reader lies as it is said to lie; what is written to lies elsewhere. -/
import Derived.Test.YtfekkdmnboccfaaFds
namespace Go.Proofs.Ytfekkdmnboccfaa
set_option linter.unusedSimpArgs false
set_option linter.unusedVariables false
open Go Go.RowKit VC
/-- Bytes that may be read from p on. -/
def BytesAt (w : World) (p : Option Addr) (ys : List Int) : Prop := ∀ j y, ys[j]? = some y → ∃ ad, p = some ad ∧ w.cell? (ad.add j) = some (.int .u8 y)
theorem add_block (ad : Addr) (j : Nat) : (ad.add j).block = ad.block := by unfold Addr.add; split <;> rfl
theorem BytesAt.keep {w w' : World} {p : Option Addr} {ys : List Int} {S : Nat → Prop} (h : BytesAt w p ys) (f : Fm S w w') (hp : ∀ ad, p = some ad → ¬ S ad.block) : BytesAt w' p ys := fun j y hj => by
  obtain ⟨ad, e, hc⟩ := h j y hj
  exact ⟨ad, e, f.cell hc (by rw [add_block]; exact hp ad e)⟩
theorem BytesAt.of_own {w : World} {base : Nat} {p : Option Addr} {n c : Nat} {ys : List Int} (h : w.ownsRow base 5 1 (.slice p n c) n (ys.map (Value.int .u8))) : BytesAt w p ys := fun j y hj => by
  obtain ⟨p', cp', e, hr⟩ := own_read h
  cases e
  obtain ⟨g, hp, _, _, hc⟩ := hr j (.int .u8 y) (by rw [List.getElem?_map, hj]; rfl)
  exact ⟨_, hp, hc⟩
theorem clone46_c {w : World} {base c : Nat} {p : Option Addr} {ys : List Int} (h : BytesAt w p ys) (hb : base ≤ w.heap.size) (hl : ys.length ≤ 140737488355328) :
    callV Try.prog 46 [.slice p ys.length c] w fun v w' => w'.ownsRow base 5 1 v ys.length (ys.map (Value.int .u8)) ∧ (∀ i, v.ownBlock = some i → w.heap.size ≤ i) ∧ Fm none' w w' := by
  refine vc46 p ys.length c w _ ?_
  cases p with
  | none =>
    have : ys = [] := by
      cases ys with
      | nil => rfl
      | cons y ys => obtain ⟨_, e, _⟩ := h 0 y rfl; cases e
    subst this
    exact ⟨⟨rfl, .inl ⟨rfl, rfl⟩⟩, (fun i e => by cases e), Fm.refl _ _⟩
  | some ad =>
    change runs _ _ _ _
    refine build_none (by rw [row25]) row5 fun s w1 hs hs1 hf1 => ?_
    obtain ⟨p1, c1, rfl, -⟩ := own_read hs
    refine append_at (base := w.heap.size) (news := ys.map (Value.int .u8)) (by rw [row25]) row5 rfl hs (by simp) (fun j u hj => ?_) (by simp [Value.oneCell']) hf1.size (by simp only [maxLen]; omega) (by omega) fun v w2 hv hf2 hbk => ?_
    · rw [List.getElem?_map, Option.map_eq_some_iff] at hj
      obtain ⟨y, hy, rfl⟩ := hj
      obtain ⟨ad', e, hc⟩ := h j y hy
      cases e
      exact hf1.cell hc id
    · obtain ⟨p2, c2, rfl, -⟩ := own_read hv
      simp only [List.nil_append, Nat.zero_add] at hv
      have hfr : ∀ i, (Value.slice p1 0 c1).ownBlock = some i → w.heap.size ≤ i := fun i hi => (own_block hs hi).1
      rw [Nat.zero_add]
      refine ⟨own_base hv hb, ?_, hf1.trans' hf2 fun i hi e => by have := hfr i e; omega⟩
      intro i hi
      rcases hbk with e | e
      · rw [Nat.zero_add] at e; exact hfr i (e ▸ hi)
      · rw [Nat.zero_add] at e; rw [e] at hi; cases hi; exact hf1.size
/-! ### Bits of bytes -/
theorem and1 (k : IntKind) (hk : k = .u64 ∨ k = .u8) (a : Int) : andI k a 1 = a % 2 := by
  have hn : ∀ n : Nat, (BitVec.ofInt n a &&& BitVec.ofInt n 1).toNat = (BitVec.ofInt n a).toNat &&& (BitVec.ofInt n 1).toNat := fun n => BitVec.toNat_and ..
  unfold andI
  rw [hn]
  rcases hk with rfl | rfl
  · rw [show (BitVec.ofInt IntKind.u64.bits 1).toNat = 1 from rfl, Nat.and_one_is_mod, BitVec.toNat_ofInt]
    simp only [IntKind.wrap, IntKind.bits, IntKind.signed]
    simp; omega
  · rw [show (BitVec.ofInt IntKind.u8.bits 1).toNat = 1 from rfl, Nat.and_one_is_mod, BitVec.toNat_ofInt]
    simp only [IntKind.wrap, IntKind.bits, IntKind.signed]
    simp; omega
theorem bitAt_eq (n : Int) (i : Nat) : bitAt n i = (n.fdiv (2 ^ (min i 64))) % 2 := by
  unfold bitAt
  rw [and1 _ (.inl rfl)]
  simp only [IntKind.wrap, IntKind.bits, IntKind.signed]
  simp; omega
def Bit (b : Int) : Prop := b = 0 ∨ b = 1
theorem bitAt_bit (n : Int) (i : Nat) : Bit (bitAt n i) := by rw [bitAt_eq]; unfold Bit; omega
theorem bitsOf_bit (n : Int) (k : Nat) : ∀ b ∈ bitsOf n k, Bit b := by
  intro b hb
  simp only [bitsOf, List.mem_map] at hb
  obtain ⟨j, _, rfl⟩ := hb
  exact bitAt_bit _ _
theorem byteBits_bit (ys : List Int) : ∀ b ∈ byteBits ys, Bit b := by
  intro b hb
  simp only [byteBits, List.mem_flatMap] at hb
  obtain ⟨y, _, hb⟩ := hb
  exact bitsOf_bit _ _ _ hb
theorem byteBits_get : ∀ (ys : List Int) (i : Nat) (y : Int), ys[i / 8]? = some y → (byteBits ys)[i]? = some (bitAt (IntKind.u64.wrap y) (7 - i % 8)) := by
  intro ys
  induction ys with
  | nil => intro i y h; simp at h
  | cons z ys ih =>
    intro i y h
    have e : byteBits (z :: ys) = bitsOf (IntKind.u64.wrap z) 8 ++ byteBits ys := rfl
    rw [e]
    by_cases hi : i < 8
    · rw [List.getElem?_append_left (by rw [bitsOf_length]; exact hi)]
      rw [show i / 8 = 0 by omega] at h
      simp only [List.getElem?_cons_zero, Option.some.injEq] at h
      subst h
      simp only [bitsOf, List.getElem?_map, List.getElem?_range hi, Option.map_some]
      rw [show i % 8 = i by omega]
    · rw [List.getElem?_append_right (by rw [bitsOf_length]; omega), bitsOf_length]
      have := ih (i - 8) y (by rw [show (i - 8) / 8 = i / 8 - 1 by omega]; rw [show i / 8 = (i / 8 - 1) + 1 by omega, List.getElem?_cons_succ] at h; exact h)
      rw [this, show (i - 8) % 8 = i % 8 by omega]
/-- The number that bits are. -/
def val (bs : List Int) : Int := bs.foldl (fun n b => 2 * n + b) 0
theorem val_snoc (bs : List Int) (b : Int) : val (bs ++ [b]) = 2 * val bs + b := by simp [val]
theorem val_lt : ∀ (n : Nat) (bs : List Int), bs.length = n → (∀ b ∈ bs, Bit b) → 0 ≤ val bs ∧ val bs < 2 ^ n := by
  intro n
  induction n with
  | zero => intro bs h _; have : bs = [] := by simpa using h
            subst this; simp [val]
  | succ n ih =>
    intro bs h hb
    have hne : bs ≠ [] := by rintro rfl; cases h
    obtain ⟨cs, b, rfl⟩ : ∃ cs b, bs = cs ++ [b] := ⟨bs.dropLast, bs.getLast hne, (List.dropLast_concat_getLast hne).symm⟩
    rw [val_snoc]
    have h1 := ih cs (by simpa using h) fun x hx => hb x (List.mem_append_left _ hx)
    have h2 : Bit b := hb b (by simp)
    rw [Int.pow_succ]
    unfold Bit at h2
    omega
/-- k bits of what remains: the number; what remains; were there so many? -/
def getR (k : Nat) (rem : List Int) : Int × List Int × Bool := if rem.length < k then (0, [], false) else (val (rem.take k), rem.drop k, true)
/-- A bits.Reader at R: these bits remain; its bytes lie at g, if there are any. -/
def BrAt (w : World) (base R : Nat) (rem : List Int) (g : Option Nat) : Prop :=
  ∃ (v : Value) (Y : List Int) (n : Nat), w.heap[R]? = some (.cells #[v, .int .i64 n] 106 (0, 0)) ∧ w.ownsRow base 5 1 v Y.length (Y.map (Value.int .u8)) ∧ v.ownBlock = g ∧ g ≠ some R ∧ n ≤ 8 * Y.length ∧ rem = (byteBits Y).drop n ∧ (∀ y ∈ Y, 0 ≤ y ∧ y < 256) ∧ Y.length ≤ 140737488355328
theorem BrAt.keep {w w' : World} {base R : Nat} {rem : List Int} {g : Option Nat} {S : Nat → Prop} (h : BrAt w base R rem g) (f : Fm S w w') (hR : ¬ S R) (hg : ∀ i, g = some i → ¬ S i) : BrAt w' base R rem g := by
  obtain ⟨v, Y, n, h1, h2, h3, h4⟩ := h
  exact ⟨v, Y, n, f.keep h1 hR, f.owns h2 fun i hi => hg i (h3 ▸ hi), h3, h4⟩
variable {w : World} {base A R : Nat} {rem : List Int} {g : Option Nat}
theorem BrAt.lt (h : BrAt w base R rem g) : R < w.heap.size ∧ (∀ i, g = some i → i < w.heap.size) := by
  obtain ⟨v, Y, n, h1, h2, h3, h4⟩ := h
  exact ⟨lt_of_blk h1, fun i hi => by obtain ⟨_, cur, hc⟩ := own_block h2 (h3.trans hi); exact lt_of_blk hc⟩
theorem BrAt.bits (h : BrAt w base R rem g) : ∀ b ∈ rem, Bit b := by
  obtain ⟨v, Y, n, h1, h2, h3, h4, h5, rfl, _⟩ := h
  exact fun b hb => byteBits_bit Y b (List.mem_of_mem_drop hb)
theorem left53_c (h : BrAt w base R rem g) : callV Try.prog 53 [.pointer (some ⟨R, 0, none⟩)] w fun v w' => v = .int .i64 rem.length ∧ w' = w.drew := by
  obtain ⟨v, Y, n, h1, h2, h3, h4, h5, rfl, h6, h7⟩ := h
  obtain ⟨p, cp, rfl, -⟩ := own_read h2
  have h1' : w.drew.heap[R]? = some (.cells #[.slice p Y.length cp, .int .i64 n] 106 (0, 0)) := h1
  refine vc53 ⟨R, 0, none⟩ w _ ?_
  refine rd_of (v := .slice p Y.length cp) (cellOf h1' rfl) ?_
  simp only [isB_i, isK_i, isP_i, isTup_i, isInt_i, isSl_i, isPtr_i, isCs_i, isStr_i, isFn_i, isIf_i, rd_i, br_t, br_f, orO_s, orO_n, gd_t, bv_add, bv_sub, bv_mul, bv_eql, bv_neq, bv_lss, bv_leq, bv_gtr, bv_geq, bv_quo, bv_rem, bv_shl, bv_shr, bv_seq, bv_sne, bv_ptr, bv_if, bv_map, bv_nf, bv_bool, bv_sl, bv_fn, uv_not, uv_neg, eqV, nilV, nc_ptr, nc_fn, nc_if, Option.map_some, toN, Nat.mul_one, implies_true, true_and, and_true, and_self, addr_add, Nat.zero_add]
  refine rd_of (v := .int .i64 n) (cellOf h1' rfl) ?_
  simp only [isB_i, isK_i, isP_i, isTup_i, isInt_i, isSl_i, isPtr_i, isCs_i, isStr_i, isFn_i, isIf_i, rd_i, br_t, br_f, orO_s, orO_n, gd_t, bv_add, bv_sub, bv_mul, bv_eql, bv_neq, bv_lss, bv_leq, bv_gtr, bv_geq, bv_quo, bv_rem, bv_shl, bv_shr, bv_seq, bv_sne, bv_ptr, bv_if, bv_map, bv_nf, bv_bool, bv_sl, bv_fn, uv_not, uv_neg, eqV, nilV, nc_ptr, nc_fn, nc_if, Option.map_some, toN, Nat.mul_one, implies_true, true_and, and_true, and_self]
  rw [w64 (n := (Y.length : Int) * 8) (by omega), w64 (by omega), List.length_drop, byteBits_length]
  congr 1; omega
theorem bit52_c {Y : List Int} {v : Value} {n m : Nat} {b : Int} (h1 : w.heap[R]? = some (.cells #[v, .int .i64 n] 106 (0, 0))) (h2 : w.ownsRow base 5 1 v Y.length (Y.map (Value.int .u8))) (h6 : ∀ y ∈ Y, 0 ≤ y ∧ y < 256) (h7 : Y.length ≤ 140737488355328) (hm : (byteBits Y)[m]? = some b) :
    callV Try.prog 52 [.pointer (some ⟨R, 0, none⟩), .int .i64 m] w fun v w' => v = .int .u64 b ∧ w' = w := by
  have hml : m < 8 * Y.length := by have := (List.getElem?_eq_some_iff.1 hm).1; rwa [byteBits_length] at this
  obtain ⟨y, hy⟩ : ∃ y, Y[m / 8]? = some y := ⟨Y[m / 8]'(by omega), by simp⟩
  rw [byteBits_get Y m y hy] at hm
  obtain ⟨p, cp, rfl, hr⟩ := own_read h2
  obtain ⟨gg, rfl, _, _, hc⟩ := hr (m / 8) (.int .u8 y) (by rw [List.getElem?_map, hy]; rfl)
  have hyr := h6 y (List.mem_of_getElem? hy)
  refine vc52 ⟨R, 0, none⟩ m w _ ?_
  refine rd_of (v := .slice (some ⟨gg, 0, none⟩) Y.length cp) (cellOf h1 rfl) ?_
  have htd : Int.tdiv (m : Int) 8 = ((m / 8 : Nat) : Int) := by rw [Int.tdiv_eq_ediv_of_nonneg (by omega)]; omega
  have htm : Int.tmod (m : Int) 8 = ((m % 8 : Nat) : Int) := by rw [Int.tmod_eq_emod_of_nonneg (by omega)]; omega
  simp only [isB_i, isK_i, isP_i, isTup_i, isInt_i, isSl_i, isPtr_i, isCs_i, isStr_i, isFn_i, isIf_i, rd_i, br_t, br_f, orO_s, orO_n, gd_t, bv_add, bv_sub, bv_mul, bv_eql, bv_neq, bv_lss, bv_leq, bv_gtr, bv_geq, bv_quo, bv_rem, bv_shl, bv_shr, bv_seq, bv_sne, bv_ptr, bv_if, bv_map, bv_nf, bv_bool, bv_sl, bv_fn, uv_not, uv_neg, eqV, nilV, nc_ptr, nc_fn, nc_if, Option.map_some, toN, Nat.mul_one, implies_true, true_and, and_true, and_self, htd, htm]
  rw [w64 (by omega), w64 (n := 7 - _) (by omega), show ((7 : Int) - ((m % 8 : Nat) : Int)) = ((7 - m % 8 : Nat) : Int) by omega]
  simp only [isB_i, isK_i, isP_i, isTup_i, isInt_i, isSl_i, isPtr_i, isCs_i, isStr_i, isFn_i, isIf_i, rd_i, br_t, br_f, orO_s, orO_n, gd_t, bv_add, bv_sub, bv_mul, bv_eql, bv_neq, bv_lss, bv_leq, bv_gtr, bv_geq, bv_quo, bv_rem, bv_shl, bv_shr, bv_seq, bv_sne, bv_ptr, bv_if, bv_map, bv_nf, bv_bool, bv_sl, bv_fn, uv_not, uv_neg, eqV, nilV, nc_ptr, nc_fn, nc_if, Option.map_some, toN, Nat.mul_one, implies_true, true_and, and_true, and_self]
  refine ⟨by omega, rd_of hc ?_⟩
  simp only [isB_i, isK_i, isP_i, isTup_i, isInt_i, isSl_i, isPtr_i, isCs_i, isStr_i, isFn_i, isIf_i, rd_i, br_t, br_f, orO_s, orO_n, gd_t, bv_add, bv_sub, bv_mul, bv_eql, bv_neq, bv_lss, bv_leq, bv_gtr, bv_geq, bv_quo, bv_rem, bv_shl, bv_shr, bv_seq, bv_sne, bv_ptr, bv_if, bv_map, bv_nf, bv_bool, bv_sl, bv_fn, uv_not, uv_neg, eqV, nilV, nc_ptr, nc_fn, nc_if, Option.map_some, toN, Nat.mul_one, implies_true, true_and, and_true, and_self]
  cases hm
  rw [bitAt_eq, and1 _ (.inr rfl)]
  rw [show min (7 - m % 8) IntKind.u8.bits = 7 - m % 8 from Nat.min_eq_left (by have : IntKind.u8.bits = 8 := rfl; omega), Nat.min_eq_left (by omega)]
  rw [show IntKind.u64.wrap y = y by (simp only [IntKind.wrap, IntKind.bits, IntKind.signed]; simp; omega)]
  congr 1
  simp only [IntKind.wrap, IntKind.bits, IntKind.signed]
  simp; omega
end Go.Proofs.Ytfekkdmnboccfaa
