/- What is read is what is written; the plain laws.  Conditions: none. -/
import Derived.Test.YtfekkdmnboccfaaPure4
namespace Go.Proofs.Ytfekkdmnboccfaa
set_option linter.unusedSimpArgs false
set_option linter.unusedVariables false
open Go Go.RowKit VC
theorem getR_b {k : Nat} {rem : List Int} (hb : ∀ b ∈ rem, Bit b) : ∀ b ∈ (getR k rem).2.1, Bit b := by
  unfold getR
  split
  · intro b h; cases h
  · exact fun b h => hb b (List.mem_of_mem_drop h)
theorem rdW_b {k : Nat} {s s' : RS} {v : Int} (h : rdW k s = (v, s')) (hb : ∀ b ∈ s.rem, Bit b) : ∀ b ∈ s'.rem, Bit b := by
  have := getR_b (k := k) hb
  have e : s' = (rdW k s).2 := by rw [h]
  rw [e]; exact this
theorem rdS_b {k : Nat} {s s' : RS} {v : Int} (h : rdS k s = (v, s')) (hb : ∀ b ∈ s.rem, Bit b) : ∀ b ∈ s'.rem, Bit b := by
  have := getR_b (k := k) hb
  have e : s' = (rdS k s).2 := by rw [h]
  rw [e]; exact this
theorem stepV_b {k : Nat} {d : Int} {s s' : RS} {v : Int} (h : stepV k d s = (v, s')) (hb : ∀ b ∈ s.rem, Bit b) : ∀ b ∈ s'.rem, Bit b := by
  have := getR_b (k := k) hb
  have e : s' = (stepV k d s).2 := by rw [h]
  rw [e]; exact this
theorem rdW_i {k : Nat} {s s' : RS} {v : Int} (h : rdW k s = (v, s')) (hb : ∀ b ∈ s.rem, Bit b) (hk : k ≤ 64) (he : s'.e = 0) : s.e = 0 ∧ ∃ m : Nat, v = m ∧ m < 2 ^ k ∧ s.rem = bitsOf (m : Int) k ++ s'.rem := by
  have := rdW_inv hk hb (by rw [h]; exact he)
  rw [h] at this; exact this
theorem rdS_i {k : Nat} {s s' : RS} {v : Int} (h : rdS k s = (v, s')) (hb : ∀ b ∈ s.rem, Bit b) (hk : k = 8 ∨ k = 18 ∨ k = 32) (he : s'.e = 0) : s.e = 0 ∧ sgnBad v k = false ∧ s.rem = sgnBits v k ++ s'.rem := by
  have := rdS_inv hk hb (by rw [h]; exact he)
  rw [h] at this; exact this
theorem stepV_i {k : Nat} {d : Int} {s s' : RS} {v : Int} (h : stepV k d s = (v, s')) (hb : ∀ b ∈ s.rem, Bit b) (hk : k = 8 ∨ k = 18 ∨ k = 32) (he : s'.e = 0) : s.e = 0 ∧ vecBad v k d = false ∧ s.rem = vecBits v k ++ s'.rem := by
  have := stepV_inv hk hb (by rw [h]; exact he)
  rw [h] at this; exact this
theorem num_i {x : Int} {m k : Nat} (hk : k ≤ 64) (hx : IntKind.u64.wrap x = m) (hm : m < 2 ^ k) : numBad x k = false ∧ numBits x k = bitsOf (m : Int) k :=
  ⟨numBad_of hk (by rw [hx]; exact_mod_cast hm), by unfold numBits; rw [hx]⟩
theorem u16n {m : Nat} (h : m < 65536) : IntKind.u16.wrap (m : Int) = m := by simp only [IntKind.wrap, IntKind.bits, IntKind.signed]; simp; omega
theorem u8n {m : Nat} (h : m < 256) : IntKind.u8.wrap (m : Int) = m := by simp only [IntKind.wrap, IntKind.bits, IntKind.signed]; simp; omega
theorem u32n {m : Nat} (h : m < 4294967296) : IntKind.u32.wrap (m : Int) = m := by simp only [IntKind.wrap, IntKind.bits, IntKind.signed]; simp; omega
theorem u64n {m : Nat} (h : m < 18446744073709551616) : IntKind.u64.wrap (m : Int) = m := by rw [u64w]; omega
theorem vec_i64 {x : Int} {k : Nat} {d : Int} (hk : k = 18 ∨ k = 32) (h : vecBad x k d = false) : I64 x := by
  have h1 := (vecBad_sgn h).1
  unfold I64
  rcases hk with rfl | rfl
  · rw [sgn18] at h1; omega
  · rw [sgn32] at h1; omega
theorem i64z : I64 0 := by unfold I64; omega
theorem or_ff {a b : Bool} (ha : a = false) (hb : b = false) : (a || b) = false := by rw [ha, hb]; rfl
set_option maxRecDepth 20000 in
set_option maxHeartbeats 1000000 in
theorem wr_rd {k : Int} {s : RS} (hk : known (blank k) = true) (hb : ∀ b ∈ s.rem, Bit b) (h : (rdFields k s).2.e = 0) :
    s.e = 0 ∧ (rdFields k s).1.kind = k ∧ Rok (rdFields k s).1 ∧ s.rem = fieldBits (rdFields k s).1 ++ (rdFields k s).2.rem := by
  have hkk := known_iff.1 hk
  change 1 ≤ k ∧ k ≤ 9 at hkk
  have hki : I64 k := by unfold I64; omega
  unfold rdFields at h ⊢
  by_cases k2 : k = 2
  · subst k2
    simp only [if_true] at h ⊢
    obtain ⟨⟨a, s1⟩, ha⟩ : ∃ r, rdW 16 s = r := ⟨_, rfl⟩
    obtain ⟨⟨b, s2⟩, hbb⟩ : ∃ r, rdW 2 s1 = r := ⟨_, rfl⟩
    obtain ⟨⟨x, s3⟩, hx⟩ : ∃ r, rdS 8 s2 = r := ⟨_, rfl⟩
    obtain ⟨⟨y, s4⟩, hy⟩ : ∃ r, rdS 8 s3 = r := ⟨_, rfl⟩
    obtain ⟨⟨t, s5⟩, ht⟩ : ∃ r, rdW 3 s4 = r := ⟨_, rfl⟩
    unfold rdCmd at h ⊢
    simp only [ha, hbb, hx, hy, ht] at h ⊢
    have b1 := rdW_b ha hb
    have b2 := rdW_b hbb b1
    have b3 := rdS_b hx b2
    have b4 := rdS_b hy b3
    obtain ⟨e4, nt, rfl, lt, rt⟩ := rdW_i ht b4 (by omega) h
    obtain ⟨e3, sy, ry⟩ := rdS_i hy b3 (.inl rfl) e4
    obtain ⟨e2, sx, rx⟩ := rdS_i hx b2 (.inl rfl) e3
    obtain ⟨e1, nb, rfl, lb, rb⟩ := rdW_i hbb b1 (by omega) e2
    obtain ⟨e0, na, rfl, la, ra⟩ := rdW_i ha hb (by omega) e1
    rw [u16n (by omega), u8n (by omega), i8w (sgn8.1 sx), i8w (sgn8.1 sy), w64 (n := (nt : Int)) (by omega), w64 (n := (nt : Int) + 1) (by omega)]
    obtain ⟨n1, c1⟩ := num_i (x := (na : Int)) (m := na) (k := 16) (by omega) (u64n (by omega)) la
    obtain ⟨n2, c2⟩ := num_i (x := (nb : Int)) (m := nb) (k := 2) (by omega) (u64n (by omega)) lb
    obtain ⟨n3, c3⟩ := num_i (x := IntKind.i64.wrap ((nt : Int) + 1 - 1)) (m := nt) (k := 3) (by omega) (by rw [w64 (by omega), show (nt : Int) + 1 - 1 = nt by omega]; exact u64n (by omega)) lt
    refine ⟨e0, rfl, ⟨?_, rfl, ?_, rfl, by simp [blank]⟩, ?_⟩
    · have h1 := sgn8.1 sx
      have h2 := sgn8.1 sy
      constructor <;> first | exact hki | exact i64z | (simp only [blank, I64]; omega) | (intro y hy; cases hy)
    · show cmdBad _ _ _ _ _ = false
      exact or_ff n1 (or_ff n2 (or_ff (or_ff sx sy) n3))
    · show s.rem = cmdBits _ _ _ _ _ ++ _
      unfold cmdBits
      simp only []
      rw [c1, c2, c3, ra, rb, rx, ry, rt]
      simp only [List.append_assoc]
  by_cases k3 : k = 3
  · subst k3
    simp only [if_neg k2, if_true] at h ⊢
    obtain ⟨⟨a, s1⟩, ha⟩ : ∃ r, rdW 16 s = r := ⟨_, rfl⟩
    obtain ⟨⟨b, s2⟩, hbb⟩ : ∃ r, rdW 1 s1 = r := ⟨_, rfl⟩
    obtain ⟨⟨x, s3⟩, hx⟩ : ∃ r, stepV 18 65536 s2 = r := ⟨_, rfl⟩
    obtain ⟨⟨y, s4⟩, hy⟩ : ∃ r, stepV 18 65536 s3 = r := ⟨_, rfl⟩
    obtain ⟨⟨z, s5⟩, hz⟩ : ∃ r, stepV 18 65536 s4 = r := ⟨_, rfl⟩
    unfold rdFire at h ⊢
    simp only [ha, hbb, hx, hy, hz] at h ⊢
    have b1 := rdW_b ha hb
    have b2 := rdW_b hbb b1
    have b3 := stepV_b hx b2
    have b4 := stepV_b hy b3
    obtain ⟨e4, sz, rz⟩ := stepV_i hz b4 (by omega) h
    obtain ⟨e3, sy, ry⟩ := stepV_i hy b3 (by omega) e4
    obtain ⟨e2, sx, rx⟩ := stepV_i hx b2 (by omega) e3
    obtain ⟨e1, nb, rfl, lb, rb⟩ := rdW_i hbb b1 (by omega) e2
    obtain ⟨e0, na, rfl, la, ra⟩ := rdW_i ha hb (by omega) e1
    rw [u16n (by omega), w64 (n := (nb : Int)) (by omega)]
    obtain ⟨n1, c1⟩ := num_i (x := (na : Int)) (m := na) (k := 16) (by omega) (u64n (by omega)) la
    obtain ⟨n2, c2⟩ := num_i (x := (nb : Int)) (m := nb) (k := 1) (by omega) (u64n (by omega)) lb
    refine ⟨e0, rfl, ⟨?_, rfl, ?_, rfl, by simp [blank]⟩, ?_⟩
    · constructor <;> first | exact hki | exact i64z | exact vec_i64 (.inl rfl) sx | exact vec_i64 (.inl rfl) sy | exact vec_i64 (.inl rfl) sz | (simp only [blank, I64]; omega) | (intro y hy; cases hy)
    · show (numBad _ _ || (numBad _ _ || vecD _ _ _)) = false
      refine or_ff n1 (or_ff n2 ?_)
      simp only [vecD, List.any_cons, List.any_nil, Bool.or_false]
      exact or_ff sx (or_ff sy sz)
    · show s.rem = (numBits _ _ ++ (numBits _ _ ++ vecB _ _)) ++ _
      simp only []
      rw [c1, c2, ra, rb, rx, ry, rz]
      simp only [vecB, List.flatMap_cons, List.flatMap_nil, List.append_nil, List.append_assoc]
  by_cases k6 : k = 6
  · subst k6
    simp only [if_neg k2, if_neg k3, if_true] at h ⊢
    obtain ⟨⟨a, s1⟩, ha⟩ : ∃ r, rdW 16 s = r := ⟨_, rfl⟩
    obtain ⟨⟨x, s3⟩, hx⟩ : ∃ r, stepV 32 (-1) s1 = r := ⟨_, rfl⟩
    obtain ⟨⟨y, s4⟩, hy⟩ : ∃ r, stepV 32 (-1) s3 = r := ⟨_, rfl⟩
    obtain ⟨⟨z, s5⟩, hz⟩ : ∃ r, stepV 32 (-1) s4 = r := ⟨_, rfl⟩
    obtain ⟨⟨x', s6⟩, hx'⟩ : ∃ r, stepV 32 (-1) s5 = r := ⟨_, rfl⟩
    obtain ⟨⟨y', s7⟩, hy'⟩ : ∃ r, stepV 32 (-1) s6 = r := ⟨_, rfl⟩
    obtain ⟨⟨z', s8⟩, hz'⟩ : ∃ r, stepV 32 (-1) s7 = r := ⟨_, rfl⟩
    unfold rdMoved at h ⊢
    simp only [ha, hx, hy, hz, hx', hy', hz'] at h ⊢
    have b1 := rdW_b ha hb
    have b3 := stepV_b hx b1
    have b4 := stepV_b hy b3
    have b5 := stepV_b hz b4
    have b6 := stepV_b hx' b5
    have b7 := stepV_b hy' b6
    obtain ⟨e7, sz', rz'⟩ := stepV_i hz' b7 (by omega) h
    obtain ⟨e6, sy', ry'⟩ := stepV_i hy' b6 (by omega) e7
    obtain ⟨e5, sx', rx'⟩ := stepV_i hx' b5 (by omega) e6
    obtain ⟨e4, sz, rz⟩ := stepV_i hz b4 (by omega) e5
    obtain ⟨e3, sy, ry⟩ := stepV_i hy b3 (by omega) e4
    obtain ⟨e2, sx, rx⟩ := stepV_i hx b1 (by omega) e3
    obtain ⟨e0, na, rfl, la, ra⟩ := rdW_i ha hb (by omega) e2
    rw [u16n (by omega)]
    obtain ⟨n1, c1⟩ := num_i (x := (na : Int)) (m := na) (k := 16) (by omega) (u64n (by omega)) la
    refine ⟨e0, rfl, ⟨?_, rfl, ?_, rfl, by simp [blank]⟩, ?_⟩
    · constructor <;> first | exact hki | exact i64z | exact vec_i64 (.inr rfl) sx | exact vec_i64 (.inr rfl) sy | exact vec_i64 (.inr rfl) sz | exact vec_i64 (.inr rfl) sx' | exact vec_i64 (.inr rfl) sy' | exact vec_i64 (.inr rfl) sz' | (simp only [blank, I64]; omega) | (intro y hy; cases hy)
    · show (numBad _ _ || (vecD _ _ _ || vecD _ _ _)) = false
      simp only [vecD, List.any_cons, List.any_nil, Bool.or_false]
      exact or_ff n1 (or_ff (or_ff sx (or_ff sy sz)) (or_ff sx' (or_ff sy' sz')))
    · show s.rem = (numBits _ _ ++ (vecB _ _ ++ vecB _ _)) ++ _
      simp only []
      rw [c1, ra, rx, ry, rz, rx', ry', rz']
      simp only [vecB, List.flatMap_cons, List.flatMap_nil, List.append_nil, List.append_assoc]
  by_cases k7 : k = 7
  · subst k7
    simp only [if_neg k2, if_neg k3, if_neg k6, if_true] at h ⊢
    obtain ⟨⟨a, s1⟩, ha⟩ : ∃ r, rdW 16 s = r := ⟨_, rfl⟩
    obtain ⟨⟨b, s2⟩, hbb⟩ : ∃ r, rdW 31 s1 = r := ⟨_, rfl⟩
    unfold rdBound rdId at h ⊢
    simp only [ha, hbb] at h ⊢
    obtain ⟨hd, e2, hF⟩ := rdF_inv h
    have b1 := rdW_b ha hb
    obtain ⟨e1, nb, rfl, lb, rb⟩ := rdW_i hbb b1 (by omega) e2
    obtain ⟨e0, na, rfl, la, ra⟩ := rdW_i ha hb (by omega) e1
    rw [hF]
    rw [w64 (n := (nb : Int)) (by omega)] at hd ⊢
    rw [u16n (by omega)]
    obtain ⟨n1, c1⟩ := num_i (x := (na : Int)) (m := na) (k := 16) (by omega) (u64n (by omega)) la
    obtain ⟨n2, c2⟩ := num_i (x := (nb : Int)) (m := nb) (k := 31) (by omega) (u64n (by omega)) lb
    refine ⟨e0, rfl, ⟨?_, rfl, ?_, rfl, by simp [blank]⟩, ?_⟩
    · constructor <;> first | exact hki | exact i64z | (simp only [blank, I64]; omega) | (intro y hy; cases hy)
    · show (numBad _ _ || (numBad _ _ || !_)) = false
      exact or_ff n1 (or_ff n2 (by simpa using hd))
    · show s.rem = (numBits _ _ ++ numBits _ _) ++ _
      simp only []
      rw [c1, c2, ra, rb, List.append_assoc]
  by_cases k5 : k = 5
  · subst k5
    simp only [if_neg k2, if_neg k3, if_neg k6, if_neg k7, if_true] at h ⊢
    obtain ⟨⟨b, s2⟩, hbb⟩ : ∃ r, rdW 31 s = r := ⟨_, rfl⟩
    unfold rdWelcome rdId at h ⊢
    simp only [hbb] at h ⊢
    obtain ⟨hd, e2, hF⟩ := rdF_inv h
    obtain ⟨e0, nb, rfl, lb, rb⟩ := rdW_i hbb hb (by omega) e2
    rw [hF]
    rw [w64 (n := (nb : Int)) (by omega)] at hd ⊢
    obtain ⟨n2, c2⟩ := num_i (x := (nb : Int)) (m := nb) (k := 31) (by omega) (u64n (by omega)) lb
    refine ⟨e0, rfl, ⟨?_, rfl, ?_, rfl, by simp [blank]⟩, ?_⟩
    · constructor <;> first | exact hki | exact i64z | (simp only [blank, I64]; omega) | (intro y hy; cases hy)
    · show (numBad _ _ || !_) = false
      exact or_ff n2 (by simpa using hd)
    · show s.rem = numBits _ _ ++ _
      simp only []
      rw [c2, rb]
  by_cases k8 : k = 8
  · subst k8
    simp only [if_neg k2, if_neg k3, if_neg k6, if_neg k7, if_neg k5, if_true] at h ⊢
    obtain ⟨⟨a, s1⟩, ha⟩ : ∃ r, rdW 16 s = r := ⟨_, rfl⟩
    obtain ⟨⟨b, s2⟩, hbb⟩ : ∃ r, rdW 4 s1 = r := ⟨_, rfl⟩
    unfold rdDenied at h ⊢
    simp only [ha, hbb] at h ⊢
    obtain ⟨hd, e2, hF⟩ := rdF_inv h
    have b1 := rdW_b ha hb
    obtain ⟨e1, nb, rfl, lb, rb⟩ := rdW_i hbb b1 (by omega) e2
    obtain ⟨e0, na, rfl, la, ra⟩ := rdW_i ha hb (by omega) e1
    rw [hF]
    rw [w64 (n := (nb : Int)) (by omega)] at hd ⊢
    rw [u16n (by omega)]
    obtain ⟨n1, c1⟩ := num_i (x := (na : Int)) (m := na) (k := 16) (by omega) (u64n (by omega)) la
    obtain ⟨n2, c2⟩ := num_i (x := (nb : Int)) (m := nb) (k := 4) (by omega) (u64n (by omega)) lb
    refine ⟨e0, rfl, ⟨?_, rfl, ?_, rfl, by simp [blank]⟩, ?_⟩
    · constructor <;> first | exact hki | exact i64z | (simp only [blank, I64]; omega) | (intro y hy; cases hy)
    · show (numBad _ _ || (numBad _ _ || !_)) = false
      exact or_ff n1 (or_ff n2 (by rw [hd]; rfl))
    · show s.rem = (numBits _ _ ++ numBits _ _) ++ _
      simp only []
      rw [c1, c2, ra, rb, List.append_assoc]
  by_cases k9 : k = 9
  · subst k9
    simp only [if_neg k2, if_neg k3, if_neg k6, if_neg k7, if_neg k5, if_neg k8, if_true] at h ⊢
    obtain ⟨⟨a, s1⟩, ha⟩ : ∃ r, rdW 32 s = r := ⟨_, rfl⟩
    obtain ⟨⟨b, s2⟩, hbb⟩ : ∃ r, rdW 32 s1 = r := ⟨_, rfl⟩
    obtain ⟨⟨n, s3⟩, hn⟩ : ∃ r, rdW 10 s2 = r := ⟨_, rfl⟩
    unfold rdSnap at h ⊢
    simp only [ha, hbb, hn] at h ⊢
    have b1 := rdW_b ha hb
    have b2 := rdW_b hbb b1
    have b3 := rdW_b hn b2
    have e3 := rdB_e _ _ _ h
    obtain ⟨bs, h1, h2, h3, h4⟩ := rdB_inv _ _ _ b3 h
    obtain ⟨e2, nn, rfl, ln, rn⟩ := rdW_i hn b2 (by omega) e3
    obtain ⟨e1, nb, rfl, lb, rb⟩ := rdW_i hbb b1 (by omega) e2
    obtain ⟨e0, na, rfl, la, ra⟩ := rdW_i ha hb (by omega) e1
    rw [Int.toNat_natCast] at h1 h2 h4 ⊢
    rw [h1, u32n (by omega), u32n (by omega), List.nil_append]
    obtain ⟨n1, c1⟩ := num_i (x := (na : Int)) (m := na) (k := 32) (by omega) (u64n (by omega)) la
    obtain ⟨n2, c2⟩ := num_i (x := (nb : Int)) (m := nb) (k := 32) (by omega) (u64n (by omega)) lb
    obtain ⟨n3, c3⟩ := num_i (x := (bs.length : Int)) (m := nn) (k := 10) (by omega) (by rw [h2]; exact u64n (by omega)) ln
    refine ⟨e0, rfl, ⟨?_, rfl, ?_, rfl, by show bs.length ≤ 1023; omega⟩, ?_⟩
    · constructor <;> first | exact hki | exact i64z | exact h3 | (simp only [blank, I64]; omega)
    · show (numBad _ _ || (numBad _ _ || numBad _ _)) = false
      exact or_ff n1 (or_ff n2 n3)
    · show s.rem = (numBits _ _ ++ (numBits _ _ ++ (numBits _ _ ++ byteBits _))) ++ _
      simp only []
      rw [c1, c2, c3, ra, rb, rn, h4]
      simp only [List.append_assoc]
  simp only [if_neg k2, if_neg k3, if_neg k6, if_neg k7, if_neg k5, if_neg k8, if_neg k9] at h ⊢
  have hb0 : fieldBits (blank k) = [] ∧ fieldBad (blank k) = false ∧ blank k = only (blank k) := by
    unfold fieldBits fieldBad only
    simp only [show (blank k).kind = k from rfl, if_neg k2, if_neg k3, if_neg k6, if_neg k7, if_neg k5, if_neg k8, if_neg k9]
    refine ⟨?_, ?_, ?_⟩ <;> first | trivial | rfl
  refine ⟨h, rfl, ⟨?_, hk, hb0.2.1, hb0.2.2, by simp [blank]⟩, by rw [hb0.1]; rfl⟩
  constructor <;> first | exact hki | exact i64z | (simp only [blank, I64]; omega) | (intro y hy; cases hy)
end Go.Proofs.Ytfekkdmnboccfaa
