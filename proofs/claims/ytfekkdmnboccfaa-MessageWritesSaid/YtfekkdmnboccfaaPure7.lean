/- What a right message is, in plain words.  Conditions: the fields are in their types' ranges. -/
import Derived.Test.YtfekkdmnboccfaaPure6
namespace Go.Proofs.Ytfekkdmnboccfaa
set_option linter.unusedSimpArgs false
set_option linter.unusedVariables false
open Go Go.RowKit VC
theorem numBad_iff {x : Int} {k : Nat} (hk : k < 63) (h : I64 x) : numBad x k = false ↔ 0 ≤ x ∧ x < 2 ^ k := by
  have h2 : (2 : Int) ^ k ≤ 2 ^ 63 := by exact_mod_cast Nat.pow_le_pow_right (by omega) (by omega)
  have h3 : (2 : Int) ^ 63 = 9223372036854775808 := by decide
  unfold I64 at h
  constructor
  · intro hb
    have := numBad_lt (by omega) hb
    rw [u64w] at this
    omega
  · intro hx
    refine numBad_of (by omega) ?_
    rw [u64w]
    omega
def farO (d x : Int) : Prop := -d ≤ x ∧ x ≤ d
theorem vec18_iff {x : Int} : vecBad x 18 65536 = false ↔ -65536 ≤ x ∧ x ≤ 65536 := by
  constructor
  · intro h
    obtain ⟨h1, h2⟩ := vecBad_sgn h
    have hw : IntKind.i64.wrap (0 - 65536) = -65536 := by decide
    rw [hw] at h2
    simpa using h2
  · intro h
    unfold vecBad
    rw [Bool.or_eq_false_iff]
    refine ⟨sgn18.2 (by omega), ?_⟩
    have hw : IntKind.i64.wrap (0 - 65536) = -65536 := by decide
    rw [hw]
    simp [h]
theorem vec32_iff {x : Int} : vecBad x 32 (-1) = false ↔ -2147483648 ≤ x ∧ x < 2147483648 := by
  constructor
  · intro h; exact sgn32.1 (vecBad_sgn h).1
  · intro h
    unfold vecBad
    rw [Bool.or_eq_false_iff]
    exact ⟨sgn32.2 h, rfl⟩
/-- The fields have room. -/
def fits (m : Msg) : Prop :=
  if m.kind = 2 then m.cb < 4 ∧ 1 ≤ m.ct ∧ m.ct ≤ 8
  else if m.kind = 3 then (0 ≤ m.shot ∧ m.shot ≤ 1) ∧ (-65536 ≤ m.d0 ∧ m.d0 ≤ 65536) ∧ (-65536 ≤ m.d1 ∧ m.d1 ≤ 65536) ∧ (-65536 ≤ m.d2 ∧ m.d2 ≤ 65536)
  else if m.kind = 6 then ((-2147483648 ≤ m.p0 ∧ m.p0 < 2147483648) ∧ (-2147483648 ≤ m.p1 ∧ m.p1 < 2147483648) ∧ (-2147483648 ≤ m.p2 ∧ m.p2 < 2147483648)) ∧
    ((-2147483648 ≤ m.v0 ∧ m.v0 < 2147483648) ∧ (-2147483648 ≤ m.v1 ∧ m.v1 < 2147483648) ∧ (-2147483648 ≤ m.v2 ∧ m.v2 < 2147483648))
  else if m.kind = 7 then 1 ≤ m.id ∧ m.id < 2147483648
  else if m.kind = 5 then 1 ≤ m.id ∧ m.id < 2147483648
  else if m.kind = 8 then 1 ≤ m.why ∧ m.why ≤ 10
  else if m.kind = 9 then m.bytes.length ≤ 1023
  else True
theorem i64_of {x : Int} (a b : Int) (h : a ≤ x ∧ x < b) (ha : -9223372036854775808 ≤ a) (hb : b ≤ 9223372036854775807) : I64 x := by unfold I64; omega
theorem id_iff {x : Int} (h : I64 x) : idBad x = false ↔ 1 ≤ x ∧ x < 2147483648 := by
  unfold idBad
  rw [Bool.or_eq_false_iff, numBad_iff (by omega) h]
  simp
  omega
theorem bad_iff {m : Msg} (hm : Mok m) (hl : m.bytes.length < 9223372036854775807) : fieldBad m = false ↔ fits m := by
  have n16 : ∀ x : Int, 0 ≤ x ∧ x < 65536 → numBad x 16 = false := fun x h => (numBad_iff (by omega) (i64_of 0 65536 h (by omega) (by omega))).2 (by omega)
  have n32 : ∀ x : Int, 0 ≤ x ∧ x < 4294967296 → numBad x 32 = false := fun x h => (numBad_iff (by omega) (i64_of 0 4294967296 h (by omega) (by omega))).2 (by omega)
  unfold fieldBad fits
  by_cases k2 : m.kind = 2
  · simp only [if_pos k2]
    have h3 : numBad (IntKind.i64.wrap (m.ct - 1)) 3 = false ↔ 1 ≤ m.ct ∧ m.ct ≤ 8 := by
      rw [numBad_iff (by omega) (wrI _), IntKind.wrap_i64]
      have := hm.ct
      unfold I64 at this
      omega
    have h2 := numBad_iff (k := 2) (by omega) (i64_of 0 256 hm.cb (by omega) (by omega))
    have hc := hm.cb
    unfold cmdBad
    simp only [Bool.or_eq_false_iff, n16 _ hm.cq, h3, sgn8, h2, hm.cdx.1, hm.cdx.2, hm.cdy.1, hm.cdy.2, true_and, and_true]
    omega
  simp only [if_neg k2]
  by_cases k3 : m.kind = 3
  · simp only [if_pos k3, vecD, List.any_cons, List.any_nil, Bool.or_false]
    simp only [Bool.or_eq_false_iff, n16 _ hm.prov, vec18_iff, numBad_iff (k := 1) (by omega) hm.shot, true_and]
    omega
  simp only [if_neg k3]
  by_cases k6 : m.kind = 6
  · simp only [if_pos k6, vecD, List.any_cons, List.any_nil, Bool.or_false]
    simp only [Bool.or_eq_false_iff, n16 _ hm.seq, vec32_iff, true_and]
  simp only [if_neg k6]
  by_cases k7 : m.kind = 7
  · simp only [if_pos k7]
    simp only [Bool.or_eq_false_iff, n16 _ hm.prov, id_iff hm.id, true_and]
  simp only [if_neg k7]
  by_cases k5 : m.kind = 5
  · simp only [if_pos k5]
    exact id_iff hm.id
  simp only [if_neg k5]
  by_cases k8 : m.kind = 8
  · simp only [if_pos k8]
    unfold whyBad
    simp only [Bool.or_eq_false_iff, n16 _ hm.prov, numBad_iff (k := 4) (by omega) hm.why, true_and]
    simp
    omega
  simp only [if_neg k8]
  by_cases k9 : m.kind = 9
  · simp only [if_pos k9]
    simp only [Bool.or_eq_false_iff, n32 _ hm.tick, n32 _ hm.bse, true_and]
    rw [numBad_iff (k := 10) (by omega) (by unfold I64; omega)]
    omega
  simp only [if_neg k9]
theorem right_iff {m : Msg} (hm : Mok m) (hl : m.bytes.length < 9223372036854775807) : rightM m = true ↔ (1 ≤ m.kind ∧ m.kind ≤ 9) ∧ fits m ∧ m = only m := by
  rw [rightM_iff hm (by omega), known_iff, bad_iff hm hl]
end Go.Proofs.Ytfekkdmnboccfaa
