/- A message's fields, written and read; the plain laws.  Conditions: the fields are in their types' ranges. -/
import Derived.Test.YtfekkdmnboccfaaPure2
namespace Go.Proofs.Ytfekkdmnboccfaa
set_option linter.unusedSimpArgs false
set_option linter.unusedVariables false
open Go Go.RowKit VC
/-- A message with the fields of its kind alone. -/
def only (m : Msg) : Msg :=
  if m.kind = 2 then { blank m.kind with cq := m.cq, cb := m.cb, cdx := m.cdx, cdy := m.cdy, ct := m.ct }
  else if m.kind = 3 then { blank m.kind with prov := m.prov, shot := m.shot, d0 := m.d0, d1 := m.d1, d2 := m.d2 }
  else if m.kind = 6 then { blank m.kind with seq := m.seq, p0 := m.p0, p1 := m.p1, p2 := m.p2, v0 := m.v0, v1 := m.v1, v2 := m.v2 }
  else if m.kind = 7 then { blank m.kind with prov := m.prov, id := m.id }
  else if m.kind = 5 then { blank m.kind with id := m.id }
  else if m.kind = 8 then { blank m.kind with prov := m.prov, why := m.why }
  else if m.kind = 9 then { blank m.kind with tick := m.tick, bse := m.bse, bytes := m.bytes }
  else blank m.kind
theorem u64_nat (x : Int) : ∃ m : Nat, IntKind.u64.wrap x = m ∧ m < 18446744073709551616 := by
  refine ⟨(IntKind.u64.wrap x).toNat, ?_, ?_⟩
  all_goals
    have : 0 ≤ IntKind.u64.wrap x ∧ IntKind.u64.wrap x < 18446744073709551616 := by
      simp only [IntKind.wrap, IntKind.bits, IntKind.signed]; simp; omega
    omega
theorem numBad_lt {x : Int} {k : Nat} (hk : k ≤ 64) (h : numBad x k = false) : IntKind.u64.wrap x < 2 ^ k := by
  obtain ⟨m, hm, -⟩ := u64_nat x
  unfold numBad at h
  rw [Bool.not_eq_false', decide_eq_true_eq, Nat.min_eq_left hk, hm] at h
  rw [hm]
  rw [Int.fdiv_eq_ediv_of_nonneg _ (by exact_mod_cast Nat.zero_le _)] at h
  have h2 : m / 2 ^ k = 0 := by exact_mod_cast h
  have := Nat.lt_of_div_eq_zero (Nat.two_pow_pos k) h2
  exact_mod_cast this
theorem numBad_of {x : Int} {k : Nat} (hk : k ≤ 64) (h : IntKind.u64.wrap x < 2 ^ k) : numBad x k = false := by
  obtain ⟨m, hm, -⟩ := u64_nat x
  unfold numBad
  rw [Bool.not_eq_false', decide_eq_true_eq, Nat.min_eq_left hk, hm]
  rw [hm] at h
  rw [Int.fdiv_eq_ediv_of_nonneg _ (by exact_mod_cast Nat.zero_le _)]
  have h' : m < 2 ^ k := by exact_mod_cast h
  have := Nat.div_eq_of_lt h'
  exact_mod_cast this
theorem rdW_num {x : Int} {k : Nat} (hk : k ≤ 64) (h : numBad x k = false) (rest : List Int) (e : Int) : rdW k ⟨numBits x k ++ rest, e⟩ = (IntKind.u64.wrap x, ⟨rest, e⟩) := by
  obtain ⟨m, hm, -⟩ := u64_nat x
  have hlt := numBad_lt hk h
  unfold numBits
  rw [hm] at hlt ⊢
  rw [rdW_app m k hk, Nat.mod_eq_of_lt (by exact_mod_cast hlt)]
theorem sgn8 {x : Int} : sgnBad x 8 = false ↔ -128 ≤ x ∧ x < 128 := by
  unfold sgnBad
  rw [Bool.not_eq_false', decide_eq_true_eq, IntKind.wrap_i64]
  simp only [Nat.reduceSub, Int.reducePow]
  rw [Int.fdiv_eq_ediv_of_nonneg _ (by omega)]
  omega
theorem sgn18 {x : Int} : sgnBad x 18 = false ↔ -131072 ≤ x ∧ x < 131072 := by
  unfold sgnBad
  rw [Bool.not_eq_false', decide_eq_true_eq, IntKind.wrap_i64]
  simp only [Nat.reduceSub, Int.reducePow]
  rw [Int.fdiv_eq_ediv_of_nonneg _ (by omega)]
  omega
theorem sgn32 {x : Int} : sgnBad x 32 = false ↔ -2147483648 ≤ x ∧ x < 2147483648 := by
  unfold sgnBad
  rw [Bool.not_eq_false', decide_eq_true_eq, IntKind.wrap_i64]
  simp only [Nat.reduceSub, Int.reducePow]
  rw [Int.fdiv_eq_ediv_of_nonneg _ (by omega)]
  omega
theorem u64w (x : Int) : IntKind.u64.wrap x = x % 18446744073709551616 := by simp [IntKind.wrap, IntKind.bits, IntKind.signed]
theorem sgn_val {x : Int} {k : Nat} (hk : k = 8 ∨ k = 18 ∨ k = 32) (h : sgnBad x k = false) {m : Nat} (hm : IntKind.u64.wrap x = m) : sgn k ((m % 2 ^ k : Nat) : Int) = x := by
  rw [u64w] at hm
  rcases hk with rfl | rfl | rfl
  · rw [sgn8] at h
    unfold sgn
    rw [u64w, IntKind.wrap_i64]
    simp only [Nat.reduceSub, Int.reducePow, Nat.reducePow]
    rw [Int.fdiv_eq_ediv_of_nonneg _ (by omega)]
    omega
  · rw [sgn18] at h
    unfold sgn
    rw [u64w, IntKind.wrap_i64]
    simp only [Nat.reduceSub, Int.reducePow, Nat.reducePow]
    rw [Int.fdiv_eq_ediv_of_nonneg _ (by omega)]
    omega
  · rw [sgn32] at h
    unfold sgn
    rw [u64w, IntKind.wrap_i64]
    simp only [Nat.reduceSub, Int.reducePow, Nat.reducePow]
    rw [Int.fdiv_eq_ediv_of_nonneg _ (by omega)]
    omega
theorem rdS_sgn {x : Int} {k : Nat} (hk : k = 8 ∨ k = 18 ∨ k = 32) (h : sgnBad x k = false) (rest : List Int) (e : Int) : rdS k ⟨sgnBits x k ++ rest, e⟩ = (x, ⟨rest, e⟩) := by
  obtain ⟨m, hm, -⟩ := u64_nat x
  unfold sgnBits
  have := sgn_val hk h hm
  rw [hm, rdS_app m k (by omega), this]
theorem vecBad_sgn {x : Int} {k : Nat} {d : Int} (h : vecBad x k d = false) : sgnBad x k = false ∧ (decide (d < 0) || (decide (IntKind.i64.wrap (0 - d) ≤ x) && decide (x ≤ d))) = true := by
  unfold vecBad at h
  rw [Bool.or_eq_false_iff] at h
  exact ⟨h.1, by rw [← Bool.not_eq_false']; exact h.2⟩
theorem stepV_vec {x : Int} {k : Nat} {d : Int} (hk : k = 8 ∨ k = 18 ∨ k = 32) (h : vecBad x k d = false) (rest : List Int) (e : Int) : stepV k d ⟨vecBits x k ++ rest, e⟩ = (x, ⟨rest, e⟩) := by
  obtain ⟨h1, h2⟩ := vecBad_sgn h
  have := rdS_sgn hk h1 rest e
  unfold sgnBits at this
  unfold stepV vecBits
  rw [this]
  simp only [h2, rdF_true]
theorem rdB_bytes : ∀ (bs : List Int) (acc rest : List Int), (∀ y ∈ bs, 0 ≤ y ∧ y < 256) → rdB bs.length ⟨byteBits bs ++ rest, 0⟩ acc = (acc ++ bs, ⟨rest, 0⟩) := by
  intro bs
  induction bs with
  | nil => intro acc rest _; simp [rdB, byteBits]
  | cons y bs ih =>
    intro acc rest hy
    have h0 := hy y (by simp)
    obtain ⟨m, rfl⟩ : ∃ m : Nat, y = m := ⟨y.toNat, by omega⟩
    have hw : IntKind.u64.wrap (m : Int) = (m : Int) := by rw [u64w]; omega
    have hw8 : IntKind.u8.wrap ((m % 2 ^ 8 : Nat) : Int) = (m : Int) := by
      simp only [IntKind.wrap, IntKind.bits, IntKind.signed]; simp; omega
    simp only [List.length_cons, rdB, if_true]
    simp only [byteBits, List.flatMap_cons, List.append_assoc]
    rw [hw, rdW_app m 8 (by omega)]
    simp only [hw8]
    rw [show (bs.flatMap fun y => bitsOf (IntKind.u64.wrap y) 8) = byteBits bs from rfl, ih _ _ (fun z hz => hy z (by simp [hz]))]
    simp
theorem or_f {a b : Bool} (h : (a || b) = false) : a = false ∧ b = false := by simpa using h
theorem wr16' {x : Int} (h : 0 ≤ x ∧ x < 65536) : IntKind.u16.wrap (IntKind.u64.wrap x) = x := wr16 h
theorem i8w {x : Int} (h : -128 ≤ x ∧ x < 128) : IntKind.i8.wrap x = x := by
  simp only [IntKind.wrap, IntKind.bits, IntKind.signed]
  simp
  split <;> omega
theorem rd_wr {m : Msg} (hm : Mok m) (hll : m.bytes.length < 18446744073709551616) (hb : fieldBad m = false) (rest : List Int) : rdFields m.kind ⟨fieldBits m ++ rest, 0⟩ = (only m, ⟨rest, 0⟩) := by
  unfold rdFields fieldBits only
  unfold fieldBad at hb
  by_cases k2 : m.kind = 2
  · simp only [if_pos k2] at hb ⊢
    unfold cmdBad at hb
    obtain ⟨b1, hb⟩ := or_f hb
    obtain ⟨b2, hb⟩ := or_f hb
    obtain ⟨b34, b5⟩ := or_f hb
    obtain ⟨b3, b4⟩ := or_f b34
    unfold rdCmd cmdBits
    simp only [List.append_assoc]
    rw [rdW_num (by omega) b1]; simp only []
    rw [rdW_num (by omega) b2]; simp only []
    rw [rdS_sgn (.inl rfl) b3]; simp only []
    rw [rdS_sgn (.inl rfl) b4]; simp only []
    rw [rdW_num (by omega) b5]; simp only []
    rw [wr16 hm.cq, wr8 hm.cb, i8w hm.cdx, i8w hm.cdy, wr64 (wrI _), wrT hm.ct, k2]
  simp only [if_neg k2] at hb ⊢
  by_cases k3 : m.kind = 3
  · simp only [if_pos k3] at hb ⊢
    obtain ⟨b1, hb⟩ := or_f hb
    obtain ⟨b2, hb⟩ := or_f hb
    simp only [vecD, List.any_cons, List.any_nil, Bool.or_false] at hb
    obtain ⟨b3, hb⟩ := or_f hb
    obtain ⟨b4, b5⟩ := or_f hb
    unfold rdFire vecB
    simp only [List.flatMap_cons, List.flatMap_nil, List.append_nil, List.append_assoc]
    rw [rdW_num (by omega) b1]; simp only []
    rw [rdW_num (by omega) b2]; simp only []
    rw [stepV_vec (by omega) b3]; simp only []
    rw [stepV_vec (by omega) b4]; simp only []
    rw [stepV_vec (by omega) b5]; simp only []
    rw [wr16 hm.prov, wr64 hm.shot, k3]
  simp only [if_neg k3] at hb ⊢
  by_cases k6 : m.kind = 6
  · simp only [if_pos k6] at hb ⊢
    obtain ⟨b1, hb⟩ := or_f hb
    obtain ⟨hp, hv⟩ := or_f hb
    simp only [vecD, List.any_cons, List.any_nil, Bool.or_false] at hp hv
    obtain ⟨b3, hp⟩ := or_f hp
    obtain ⟨b4, b5⟩ := or_f hp
    obtain ⟨c3, hv⟩ := or_f hv
    obtain ⟨c4, c5⟩ := or_f hv
    unfold rdMoved vecB
    simp only [List.flatMap_cons, List.flatMap_nil, List.append_nil, List.append_assoc]
    rw [rdW_num (by omega) b1]; simp only []
    rw [stepV_vec (by omega) b3]; simp only []
    rw [stepV_vec (by omega) b4]; simp only []
    rw [stepV_vec (by omega) b5]; simp only []
    rw [stepV_vec (by omega) c3]; simp only []
    rw [stepV_vec (by omega) c4]; simp only []
    rw [stepV_vec (by omega) c5]; simp only []
    rw [wr16 hm.seq, k6]
  simp only [if_neg k6] at hb ⊢
  by_cases k7 : m.kind = 7
  · simp only [if_pos k7] at hb ⊢
    obtain ⟨b1, hb⟩ := or_f hb
    unfold idBad at hb
    obtain ⟨b2, b3⟩ := or_f hb
    unfold rdBound rdId
    simp only [List.append_assoc]
    rw [rdW_num (by omega) b1]; simp only []
    rw [rdW_num (by omega) b2]; simp only []
    rw [wr16 hm.prov, wr64 hm.id]
    rw [show decide (0 < m.id) = true by simpa using b3, rdF_true, k7]
  simp only [if_neg k7] at hb ⊢
  by_cases k5 : m.kind = 5
  · simp only [if_pos k5] at hb ⊢
    unfold idBad at hb
    obtain ⟨b2, b3⟩ := or_f hb
    unfold rdWelcome rdId
    rw [rdW_num (by omega) b2]; simp only []
    rw [wr64 hm.id]
    rw [show decide (0 < m.id) = true by simpa using b3, rdF_true, k5]
  simp only [if_neg k5] at hb ⊢
  by_cases k8 : m.kind = 8
  · simp only [if_pos k8] at hb ⊢
    obtain ⟨b1, hb⟩ := or_f hb
    unfold whyBad at hb
    obtain ⟨b2, b3⟩ := or_f hb
    unfold rdDenied
    simp only [List.append_assoc]
    rw [rdW_num (by omega) b1]; simp only []
    rw [rdW_num (by omega) b2]; simp only []
    rw [wr16 hm.prov, wr64 hm.why]
    rw [show (decide (1 ≤ m.why) && decide (m.why ≤ 10)) = true by simpa using b3, rdF_true, k8]
  simp only [if_neg k8] at hb ⊢
  by_cases k9 : m.kind = 9
  · simp only [if_pos k9] at hb ⊢
    obtain ⟨b1, hb⟩ := or_f hb
    obtain ⟨b2, b3⟩ := or_f hb
    have hl := numBad_lt (by omega) b3
    have hlen : IntKind.u64.wrap (m.bytes.length : Int) = (m.bytes.length : Int) := by
      rw [u64w]; omega
    unfold rdSnap
    simp only [List.append_assoc]
    rw [rdW_num (by omega) b1]; simp only []
    rw [rdW_num (by omega) b2]; simp only []
    rw [rdW_num (by omega) b3]; simp only []
    rw [hlen, Int.toNat_natCast, rdB_bytes _ _ _ hm.bytes, wr32 hm.tick, wr32 hm.bse, k9]
    rfl
  simp only [if_neg k9] at hb ⊢
  rfl
end Go.Proofs.Ytfekkdmnboccfaa
