/- What is written is read, and what is read is what is written; the plain laws.  Conditions: the fields are in their types' ranges. -/
import Derived.Test.YtfekkdmnboccfaaPure3
namespace Go.Proofs.Ytfekkdmnboccfaa
set_option linter.unusedSimpArgs false
set_option linter.unusedVariables false
open Go Go.RowKit VC
theorem app_bit {a b : List Int} (ha : ∀ x ∈ a, Bit x) (hb : ∀ x ∈ b, Bit x) : ∀ x ∈ a ++ b, Bit x := fun x hx => (List.mem_append.1 hx).elim (ha x) (hb x)
theorem vecB_bit (l : List Int) (k : Nat) : ∀ b ∈ vecB l k, Bit b := by
  intro b hb
  simp only [vecB, List.mem_flatMap] at hb
  obtain ⟨y, _, hb⟩ := hb
  exact bitsOf_bit _ _ b hb
theorem fieldBits_bit (m : Msg) : ∀ b ∈ fieldBits m, Bit b := by
  have hn : ∀ x k, ∀ b ∈ numBits x k, Bit b := fun x k => bitsOf_bit _ _
  have hs : ∀ x k, ∀ b ∈ sgnBits x k, Bit b := fun x k => bitsOf_bit _ _
  unfold fieldBits
  repeat' split
  · exact app_bit (hn _ _) (app_bit (hn _ _) (app_bit (app_bit (hs _ _) (hs _ _)) (hn _ _)))
  · exact app_bit (hn _ _) (app_bit (hn _ _) (vecB_bit _ _))
  · exact app_bit (hn _ _) (app_bit (vecB_bit _ _) (vecB_bit _ _))
  · exact app_bit (hn _ _) (hn _ _)
  · exact hn _ _
  · exact app_bit (hn _ _) (hn _ _)
  · exact app_bit (hn _ _) (app_bit (hn _ _) (app_bit (hn _ _) (byteBits_bit _)))
  · intro b hb; cases hb
theorem rightM_eq {m : Msg} (hm : Mok m) (hll : m.bytes.length < 18446744073709551616) : rightM m = (known m && !fieldBad m && decide (m = only m)) := by
  unfold rightM
  cases hb : fieldBad m with
  | true => simp
  | false => rw [byteBits_pack _ (fieldBits_bit m), rd_wr hm hll hb]
theorem rightM_iff {m : Msg} (hm : Mok m) (hll : m.bytes.length < 18446744073709551616) : rightM m = true ↔ known m = true ∧ fieldBad m = false ∧ m = only m := by
  rw [rightM_eq hm hll]; simp [and_assoc]
theorem known_iff {m : Msg} : known m = true ↔ 1 ≤ m.kind ∧ m.kind ≤ 9 := by unfold known; simp
/-- Messages that may be. -/
structure Rok (m : Msg) : Prop where
  ok : Mok m
  known : known m = true
  bad : fieldBad m = false
  only : m = only m
  len : m.bytes.length ≤ 1023
theorem Rok.right {m : Msg} (h : Rok m) : rightM m = true := (rightM_iff h.ok (by have := h.len; omega)).2 ⟨h.known, h.bad, h.only⟩
theorem rok_of {m : Msg} (hm : Mok m) (hll : m.bytes.length < 18446744073709551616) (h : rightM m = true) : Rok m := by
  obtain ⟨h1, h2, h3⟩ := (rightM_iff hm hll).1 h
  refine ⟨hm, h1, h2, h3, ?_⟩
  by_cases k9 : m.kind = 9
  · unfold fieldBad at h2
    rw [if_neg (by omega), if_neg (by omega), if_neg (by omega), if_neg (by omega), if_neg (by omega), if_neg (by omega), if_pos k9] at h2
    obtain ⟨_, h2⟩ := or_f h2
    obtain ⟨_, h2⟩ := or_f h2
    have := numBad_lt (by omega) h2
    rw [u64w] at this
    simp only [Int.reducePow] at this
    omega
  · have : m.bytes = [] := by
      rw [h3]
      unfold Go.Proofs.Ytfekkdmnboccfaa.only
      repeat' split
      all_goals first | (exact absurd ‹m.kind = 9› k9) | rfl
    rw [this]; simp
theorem decGo_app : ∀ (ms : List Msg) (acc : List Msg) (rest : List Int), (∀ m ∈ ms, Rok m) → decGo ms.length ⟨ms.flatMap oneBits ++ rest, 0⟩ acc = (acc ++ ms, ⟨rest, 0⟩) := by
  intro ms
  induction ms with
  | nil => intro acc rest _; simp [decGo]
  | cons m ms ih =>
    intro acc rest h
    have hm := h m (by simp)
    have hk := known_iff.1 hm.known
    simp only [List.length_cons, decGo, if_true]
    simp only [List.flatMap_cons, oneBits, List.append_assoc]
    obtain ⟨k, hkk⟩ : ∃ k : Nat, m.kind = k := ⟨m.kind.toNat, by omega⟩
    have hw : IntKind.u64.wrap m.kind = (k : Int) := by rw [u64w]; omega
    rw [hw, rdW_app k 4 (by omega)]
    simp only []
    have hi : IntKind.i64.wrap ((k % 2 ^ 4 : Nat) : Int) = m.kind := by rw [w64 (by omega)]; omega
    rw [hi, rd_wr hm.ok (by have := hm.len; omega) hm.bad]
    simp only []
    rw [show known (blank m.kind) = true from hm.known, rdF_true]
    rw [ih _ _ (fun x hx => h x (by simp [hx])), ← hm.only]
    simp
theorem encBits_bit (ms : List Msg) : ∀ b ∈ encBits ms, Bit b := by
  unfold encBits
  refine app_bit (bitsOf_bit _ _) fun b hb => ?_
  simp only [List.mem_flatMap] at hb
  obtain ⟨m, _, hb⟩ := hb
  exact app_bit (bitsOf_bit _ _) (fieldBits_bit m) b hb
theorem restOk_zeros {n : Nat} (h : n < 8) : restOk (List.replicate n 0) = true := by
  unfold restOk; simp [h]
theorem dec_of {ys zs : List Int} {ms : List Msg} (h : ∀ m ∈ ms, Rok m) (h16 : ms.length ≤ 16) (hb : byteBits ys = encBits ms ++ zs) (hz : restOk zs = true) (hl : ys.length ≤ 1024) : decodeM ys = (ms, 0) := by
  have hw : IntKind.u64.wrap (ms.length : Int) = (ms.length : Int) := by rw [u64w]; omega
  have e : (⟨byteBits ys, 0⟩ : RS) = ⟨bitsOf (ms.length : Int) 5 ++ (ms.flatMap oneBits ++ zs), 0⟩ := by
    rw [hb]; unfold encBits; rw [hw, List.append_assoc]
  have h1 : rdW 5 (⟨byteBits ys, 0⟩ : RS) = ((ms.length : Int), ⟨ms.flatMap oneBits ++ zs, 0⟩) := by
    rw [e, rdW_app ms.length 5 (by omega), show ms.length % 2 ^ 5 = ms.length from Nat.mod_eq_of_lt (by omega)]
  unfold decodeM
  rw [h1]
  simp only [show decide ((ms.length : Int) ≤ 16) = true from decide_eq_true (by omega), rdF_true, Int.toNat_natCast, decGo_app ms [] _ h, List.nil_append, hz, show decide (ys.length ≤ 1024) = true by simpa using hl, Bool.and_self, if_true]
/-- What is encoded is decoded. -/
theorem dec_enc {ms : List Msg} (h : ∀ m ∈ ms, Rok m) (h16 : ms.length ≤ 16) (hl : (pack (encBits ms)).length ≤ 1024) : decodeM (pack (encBits ms)) = (ms, 0) := by
  have hpl := pack_length (encBits ms)
  exact dec_of h h16 (byteBits_pack _ (encBits_bit ms)) (restOk_zeros (by omega)) hl
/-! ### what is read is what is written -/
theorem failE_zero {e n : Int} {ok : Bool} (hn : n ≠ 0) (h : failE e ok n = 0) : e = 0 ∧ ok = true := by
  unfold failE at h
  split at h
  · exact absurd h hn
  · rename_i h'
    refine ⟨h, ?_⟩
    cases ok with
    | true => rfl
    | false => exact absurd ⟨rfl, h⟩ h'
theorem rdF_inv {ok : Bool} {s : RS} (h : (rdF ok s).e = 0) : ok = true ∧ s.e = 0 ∧ rdF ok s = s := by
  obtain ⟨h1, h2⟩ := failE_zero (by decide) h
  subst h2
  exact ⟨rfl, h1, rdF_true s⟩
theorem getR_inv {k : Nat} {rem : List Int} (h : (getR k rem).2.2 = true) : k ≤ rem.length ∧ getR k rem = (val (rem.take k), rem.drop k, true) := by
  unfold getR at h ⊢
  split
  · rename_i hlt; rw [if_pos hlt] at h; cases h
  · exact ⟨by omega, rfl⟩
theorem rdW_inv {k : Nat} {s : RS} (hk : k ≤ 64) (hb : ∀ b ∈ s.rem, Bit b) (h : (rdW k s).2.e = 0) : s.e = 0 ∧ ∃ m : Nat, (rdW k s).1 = m ∧ m < 2 ^ k ∧ s.rem = bitsOf (m : Int) k ++ (rdW k s).2.rem := by
  obtain ⟨h1, h2⟩ := failE_zero (by decide) h
  obtain ⟨hl, hg⟩ := getR_inv h2
  refine ⟨h1, ?_⟩
  unfold rdW
  rw [hg]
  have hbt : ∀ b ∈ s.rem.take k, Bit b := fun b hx => hb b (List.mem_of_mem_take hx)
  have hlen : (s.rem.take k).length = k := by rw [List.length_take]; omega
  have hv := val_bound hbt
  rw [hlen] at hv
  obtain ⟨m, hm⟩ : ∃ m : Nat, val (s.rem.take k) = m := ⟨(val (s.rem.take k)).toNat, by omega⟩
  refine ⟨m, hm, by rw [hm] at hv; exact_mod_cast hv.2, ?_⟩
  have := bitsOf_val _ hbt (by omega)
  rw [hlen, hm] at this
  rw [this]
  exact (List.take_append_drop k s.rem).symm
theorem sgn_inv {m k : Nat} (hk : k = 8 ∨ k = 18 ∨ k = 32) (hm : m < 2 ^ k) : sgnBad (sgn k (m : Int)) k = false ∧ sgnBits (sgn k (m : Int)) k = bitsOf (m : Int) k := by
  have key : ∀ x : Int, x = sgn k (m : Int) → sgnBad x k = false ∧ ∃ n : Nat, IntKind.u64.wrap x = n ∧ n % 2 ^ k = m := by
    intro x hx
    refine ⟨?_, (IntKind.u64.wrap x).toNat, ?_, ?_⟩
    all_goals
      unfold sgn at hx
      rw [u64w, IntKind.wrap_i64] at hx
      rcases hk with rfl | rfl | rfl <;> simp only [Nat.reduceSub, Int.reducePow, Nat.reducePow] at hx hm ⊢ <;> rw [Int.fdiv_eq_ediv_of_nonneg _ (by omega)] at hx
    · rw [sgn8]; omega
    · rw [sgn18]; omega
    · rw [sgn32]; omega
    all_goals (rw [u64w]; omega)
  obtain ⟨h1, n, h2, h3⟩ := key _ rfl
  refine ⟨h1, ?_⟩
  unfold sgnBits
  rw [h2]
  exact bitsOf_congr (by omega) (by rw [h3, Nat.mod_eq_of_lt hm])
theorem rdS_inv {k : Nat} {s : RS} (hk : k = 8 ∨ k = 18 ∨ k = 32) (hb : ∀ b ∈ s.rem, Bit b) (h : (rdS k s).2.e = 0) : s.e = 0 ∧ sgnBad (rdS k s).1 k = false ∧ s.rem = sgnBits (rdS k s).1 k ++ (rdS k s).2.rem := by
  obtain ⟨h1, m, h2, h3, h4⟩ := rdW_inv (k := k) (s := s) (by omega) hb h
  have hs : (rdS k s).1 = sgn k (m : Int) := by
    unfold rdS
    rw [show (getR k s.rem).1 = (rdW k s).1 from rfl, h2]
  obtain ⟨h5, h6⟩ := sgn_inv hk h3
  rw [hs]
  refine ⟨h1, h5, ?_⟩
  rw [h6]
  exact h4
theorem sub_bit {a b : List Int} {r : List Int} (h : r = a ++ b) (hb : ∀ x ∈ r, Bit x) : ∀ x ∈ b, Bit x := fun x hx => hb x (by rw [h]; simp [hx])
theorem stepV_inv {k : Nat} {d : Int} {s : RS} (hk : k = 8 ∨ k = 18 ∨ k = 32) (hb : ∀ b ∈ s.rem, Bit b) (h : (stepV k d s).2.e = 0) : s.e = 0 ∧ vecBad (stepV k d s).1 k d = false ∧ s.rem = vecBits (stepV k d s).1 k ++ (stepV k d s).2.rem := by
  obtain ⟨h1, h2, h3⟩ := rdF_inv h
  obtain ⟨h4, h5, h6⟩ := rdS_inv hk hb h2
  refine ⟨h4, ?_, ?_⟩
  · unfold stepV vecBad
    rw [Bool.or_eq_false_iff]
    exact ⟨h5, by rw [h1]; rfl⟩
  · unfold stepV
    simp only [h3]
    exact h6
theorem rdB_e : ∀ (n : Nat) (s : RS) (acc : List Int), (rdB n s acc).2.e = 0 → s.e = 0 := by
  intro n
  cases n with
  | zero => intro s acc h; exact h
  | succ n =>
    intro s acc h
    unfold rdB at h
    split at h
    · assumption
    · exact h
theorem rdB_inv : ∀ (n : Nat) (s : RS) (acc : List Int), (∀ b ∈ s.rem, Bit b) → (rdB n s acc).2.e = 0 → ∃ bs, (rdB n s acc).1 = acc ++ bs ∧ bs.length = n ∧ (∀ y ∈ bs, 0 ≤ y ∧ y < 256) ∧ s.rem = byteBits bs ++ (rdB n s acc).2.rem := by
  intro n
  induction n with
  | zero => intro s acc _ _; exact ⟨[], by simp [rdB], rfl, by simp, by simp [rdB, byteBits]⟩
  | succ n ih =>
    intro s acc hb h
    have he := rdB_e _ _ _ h
    unfold rdB at h ⊢
    rw [if_pos he] at h ⊢
    have he1 := rdB_e _ _ _ h
    obtain ⟨_, m, hm, hlt, hrem⟩ := rdW_inv (by omega) hb he1
    obtain ⟨bs, h1, h2, h3, h4⟩ := ih _ _ (sub_bit hrem hb) h
    have hw8 : IntKind.u8.wrap (rdW 8 s).1 = (m : Int) := by
      rw [hm]; simp only [IntKind.wrap, IntKind.bits, IntKind.signed]; simp; omega
    refine ⟨(m : Int) :: bs, ?_, by simp [h2], ?_, ?_⟩
    · rw [h1, hw8]; simp
    · intro y hy
      rcases List.mem_cons.1 hy with rfl | hy
      · omega
      · exact h3 y hy
    · rw [hrem, h4]
      simp only [byteBits, List.flatMap_cons, List.append_assoc]
      rw [show IntKind.u64.wrap (m : Int) = (m : Int) by rw [u64w]; omega]
end Go.Proofs.Ytfekkdmnboccfaa
