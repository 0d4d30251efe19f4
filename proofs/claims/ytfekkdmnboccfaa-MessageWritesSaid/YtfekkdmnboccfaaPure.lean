/- Bits: of a number, packed into bytes; the plain laws.  Conditions: none. -/
import Derived.Test.YtfekkdmnboccfaaDec
namespace Go.Proofs.Ytfekkdmnboccfaa
set_option linter.unusedSimpArgs false
set_option linter.unusedVariables false
open Go Go.RowKit VC
theorem bitAt_nat (m i : Nat) (hi : i ≤ 64) : bitAt (m : Int) i = (m.testBit i).toNat := by
  rw [bitAt_eq, Nat.min_eq_left hi, Nat.toNat_testBit]
  have : ((m : Int).fdiv (2 ^ i)) = ((m / 2 ^ i : Nat) : Int) := by
    rw [Int.fdiv_eq_ediv_of_nonneg _ (by exact_mod_cast Nat.zero_le _)]
    rw [Int.natCast_ediv]; norm_cast
  rw [this]
  norm_cast
theorem bitsOf_succ (n : Int) (k : Nat) : bitsOf n (k + 1) = bitAt n k :: bitsOf n k := by
  unfold bitsOf
  rw [List.range_succ_eq_map, List.map_cons, List.map_map]
  congr 1
  refine List.map_congr_left fun j hj => ?_
  simp only [List.mem_range] at hj
  show bitAt n (k + 1 - 1 - (j + 1)) = bitAt n (k - 1 - j)
  congr 1; omega
theorem val_from : ∀ (bs : List Int) (a : Int), bs.foldl (fun n b => 2 * n + b) a = a * 2 ^ bs.length + val bs := by
  intro bs
  induction bs with
  | nil => intro a; simp [val]
  | cons b bs ih =>
    intro a
    have h1 := ih (2 * a + b)
    have h2 := ih (2 * 0 + b)
    simp only [val, List.foldl_cons, List.length_cons] at h1 h2 ⊢
    rw [h1, h2, Int.pow_succ]
    grind
theorem val_cons (b : Int) (bs : List Int) : val (b :: bs) = b * 2 ^ bs.length + val bs := by
  have := val_from bs (2 * 0 + b)
  simp only [val, List.foldl_cons] at this ⊢
  rw [this]; simp
theorem val_bitsOf (m : Nat) : ∀ k, k ≤ 64 → val (bitsOf (m : Int) k) = ((m % 2 ^ k : Nat) : Int) := by
  intro k
  induction k with
  | zero => intro _; simp [bitsOf, val, Nat.mod_one]
  | succ k ih =>
    intro hk
    rw [bitsOf_succ, val_cons, ih (by omega), bitsOf_length, bitAt_nat _ _ (by omega), Nat.pow_succ, Nat.mod_mul, Nat.toNat_testBit]
    push_cast
    grind
theorem bitsOf_mod (m k : Nat) : ∀ j, j ≤ k → k ≤ 64 → bitsOf ((m % 2 ^ k : Nat) : Int) j = bitsOf (m : Int) j := by
  intro j
  induction j with
  | zero => intro _ _; rfl
  | succ j ih =>
    intro hj hk
    rw [bitsOf_succ, bitsOf_succ, ih (by omega) hk, bitAt_nat _ _ (by omega), bitAt_nat _ _ (by omega), Nat.testBit_mod_two_pow]
    simp [show j < k by omega]
theorem bitsOf_congr {m m' k : Nat} (hk : k ≤ 64) (h : m % 2 ^ k = m' % 2 ^ k) : bitsOf (m : Int) k = bitsOf (m' : Int) k := by
  rw [← bitsOf_mod m k k (Nat.le_refl _) hk, h, bitsOf_mod m' k k (Nat.le_refl _) hk]
theorem bitsOf_val : ∀ (bs : List Int), (∀ b ∈ bs, Bit b) → bs.length ≤ 64 → bitsOf (val bs) bs.length = bs := by
  intro bs
  induction bs with
  | nil => intro _ _; rfl
  | cons b bs ih =>
    intro hb hl
    simp only [List.length_cons] at hl
    have h1 := ih (fun x hx => hb x (by simp [hx])) (by omega)
    obtain ⟨v, hv⟩ : ∃ v : Nat, val bs = v := ⟨(val bs).toNat, by have := val_lt _ bs rfl (fun x hx => hb x (by simp [hx])); omega⟩
    have hlt : v < 2 ^ bs.length := by
      have := (val_lt _ bs rfl (fun x hx => hb x (by simp [hx]))).2
      rw [hv] at this; exact_mod_cast this
    obtain ⟨c, hc, rfl⟩ : ∃ c : Nat, c < 2 ∧ b = c := by
      rcases hb b (by simp) with h | h
      · exact ⟨0, by omega, h⟩
      · exact ⟨1, by omega, h⟩
    rw [val_cons, List.length_cons, bitsOf_succ, hv]
    have e : ((c : Int) * 2 ^ bs.length + (v : Int)) = ((c * 2 ^ bs.length + v : Nat) : Int) := by push_cast; rfl
    rw [e]
    rw [hv] at h1
    congr 1
    · rw [bitAt_nat _ _ (by omega), Nat.toNat_testBit, Nat.mul_comm, Nat.mul_add_div (Nat.two_pow_pos _), Nat.div_eq_of_lt hlt]
      congr 1; omega
    · rw [bitsOf_congr (m' := v) (by omega) (by rw [Nat.mul_comm, Nat.mul_add_mod])]
      exact h1
theorem val_bound {bs : List Int} (hb : ∀ b ∈ bs, Bit b) : 0 ≤ val bs ∧ val bs < 2 ^ bs.length := val_lt _ bs rfl hb
/-! ### packing -/
theorem pack_or : ∀ y : Fin 256, ∀ r : Fin 8, ∀ s : Fin 8, bitAt (IntKind.u64.wrap (orI .u8 (y.val : Int) (IntKind.u8.wrap (1 * 2 ^ (7 - r.val))))) (7 - s.val) = if s = r then 1 else bitAt (IntKind.u64.wrap (y.val : Int)) (7 - s.val) := by decide +kernel
theorem pack_or0 : ∀ y : Fin 256, orI .u8 (y.val : Int) (IntKind.u8.wrap (0 * 2 ^ 0)) = (y.val : Int) := by decide +kernel
end Go.Proofs.Ytfekkdmnboccfaa
