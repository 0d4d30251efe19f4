/- message: a reader's bytes, id and vec.  Conditions: the reader lies as it is said to lie; the fields are cells of another block. -/
import Derived.Test.YtfekkdmnboccfaaRNum
import Derived.Test.YtfekkdmnboccfaaC4
namespace Go.Proofs.Ytfekkdmnboccfaa
set_option linter.unusedSimpArgs false
set_option linter.unusedVariables false
open Go Go.RowKit VC
variable {w : World} {base A R : Nat} {g : Option Nat} {s : RS}
def rdB : Nat → RS → List Int → List Int × RS
  | 0, s, acc => (acc, s)
  | n + 1, s, acc => if s.e = 0 then rdB n (rdW 8 s).2 (acc ++ [IntKind.u8.wrap (rdW 8 s).1]) else (acc, s)
theorem rdB_len : ∀ (n : Nat) (s : RS) (acc : List Int), (rdB n s acc).1.length ≤ acc.length + n := by
  intro n
  induction n with
  | zero => intro s acc; exact Nat.le_refl _
  | succ n ih =>
    intro s acc
    unfold rdB
    split
    · refine Nat.le_trans (ih _ _) ?_
      simp; omega
    · simp
def cellN (w : World) (N : Nat) : Nat := match w.cell? ⟨N, 0, none⟩ with | some (.int _ n) => n.toNat | _ => 0
theorem cellN_of {N n : Nat} {k : IntKind} (h : w.heap[N]? = some (.cells #[.int k n] 60 (0, 0))) : cellN w N = n := by
  unfold cellN; rw [cellOf h (i := 0) rfl]; rfl
theorem getR_lt {k : Nat} {rem : List Int} (hb : ∀ b ∈ rem, Bit b) : 0 ≤ (getR k rem).1 ∧ (getR k rem).1 < 2 ^ k := by
  unfold getR
  split
  · exact ⟨Int.le_refl _, show (0 : Int) < 2 ^ k by exact_mod_cast Nat.two_pow_pos k⟩
  · exact val_lt k _ (by rw [List.length_take]; omega) fun x hx => hb x (List.mem_of_mem_take hx)
set_option maxHeartbeats 1000000 in
set_option maxRecDepth 20000 in
theorem bytes85_c {B i tB : Nat} {C : Array Value} (h : RdAt w base A R s g) (hB : w.heap[B]? = some (.cells C tB (0, 0))) (hi : C[i]? = some (.slice none 0 0)) (hBA : B ≠ A) (hBR : B ≠ R) (hBg : g ≠ some B) (hbase : base ≤ w.heap.size) :
    callV Try.prog 85 [.pointer (some ⟨A, 0, none⟩), .pointer (some ⟨B, i, none⟩), .int .i64 10] w fun v w' => ∃ p cp, RdP base A R B tB g w (rdB (rdW 10 s).1.toNat (rdW 10 s).2 []).2 (C.setIfInBounds i (.slice p (rdB (rdW 10 s).1.toNat (rdW 10 s).2 []).1.length cp)) v w' ∧
      w'.ownsRow base 5 1 (.slice p (rdB (rdW 10 s).1.toNat (rdW 10 s).2 []).1.length cp) (rdB (rdW 10 s).1.toNat (rdW 10 s).2 []).1.length ((rdB (rdW 10 s).1.toNat (rdW 10 s).2 []).1.map (Value.int .u8)) ∧ (∀ ad, p = some ad → w.heap.size ≤ ad.block) := by
  have hl := h.lt
  have hBl := lt_of_blk hB
  have hiC := (Array.getElem?_eq_some_iff.1 hi).1
  refine vc85 ⟨A, 0, none⟩ ⟨B, i, none⟩ 10 w _ ?_
  refine allocC_of fun w1 hb1 hs1 hf1 => allocC_of fun w3 hb3 hs3 hf3 => ?_
  have hF3 : Fm none' w w3 := hf1.trans hf3
  rw [hs1] at hb3 hs3 ⊢
  have hN3 := hf3.keep hb1 id
  refine (whole87_c (k := 10) (by omega) (h.keep hF3 id id fun _ _ y => y) hN3 (by simp) (by omega) (by omega) (by intro e; have := hl.2.2 _ e; omega)).mono ?_
  rintro _ w5 ⟨rfl, h5, hN5, hf5⟩
  have hgl := getR_lt (k := 10) h.2.2.2.bits
  obtain ⟨n0, hn0⟩ : ∃ n0 : Nat, (rdW 10 s).1 = n0 := ⟨(rdW 10 s).1.toNat, by unfold rdW; simp only []; omega⟩
  have hn0l : n0 < 1024 := by unfold rdW at hn0; simp only [] at hn0; omega
  rw [hn0] at hN5 ⊢
  rw [Int.toNat_natCast]
  obtain ⟨s1, hs1'⟩ : ∃ s1, s1 = (rdW 10 s).2 := ⟨_, rfl⟩
  rw [← hs1'] at h5 ⊢
  have hc5 := hf5.keep hb3 (by rintro (e | e | e); omega; omega; omega)
  have hB5 := hf5.keep (hF3.keep hB id) (by rintro (e | e | e); exact hBA e; exact hBR e; omega)
  have hF5 : Fm (fun i => i = A ∨ i = R ∨ i = B) w w5 := hF3.none.trans' hf5 (by rintro j hj (e | e | e); exact .inl e; exact .inr (.inl e); omega)
  refine ⟨fun _ w' => ∃ (m : Nat) (c : Int) (s' : RS) (acc : List Int) (p : Option Addr) (cp : Nat), w'.heap[w.heap.size]? = some (.cells #[.int .u64 m] 60 (0, 0)) ∧ w'.heap[w.heap.size + 1]? = some (.cells #[.int .u64 c] 60 (0, 0)) ∧ RdAt w' base A R s' g ∧
    w'.heap[B]? = some (.cells (C.setIfInBounds i (.slice p acc.length cp)) tB (0, 0)) ∧ w'.ownsRow base 5 1 (.slice p acc.length cp) acc.length (acc.map (Value.int .u8)) ∧ (∀ ad, p = some ad → w.heap.size + 2 ≤ ad.block) ∧ Fm (fun i => i = A ∨ i = R ∨ i = B) w w' ∧ rdB m s' acc = rdB n0 s1 [] ∧ acc.length + m ≤ n0,
    fun _ w' => cellN w' w.heap.size, ?_, ?_⟩
  · refine ⟨n0, 0, s1, [], none, 0, hN5, hc5, h5, ?_, ⟨rfl, .inl ⟨rfl, rfl⟩⟩, (fun _ e => by cases e), hF5, rfl, by simp⟩
    rw [List.length_nil, set_same hi]; exact hB5
  rintro u w9 ⟨m, c, s', acc, p, cp, hN, hc, hr, hB9, hown, hfresh, hF, hrd, hle⟩
  refine rd_of (v := .int .u64 m) (cellOf hN rfl) ?_
  simp only [isB_i, isK_i, isP_i, isTup_i, isInt_i, isSl_i, isPtr_i, isCs_i, isStr_i, isFn_i, isIf_i, rd_i, br_t, br_f, orO_s, orO_n, gd_t, bv_add, bv_sub, bv_mul, bv_eql, bv_neq, bv_lss, bv_leq, bv_gtr, bv_geq, bv_quo, bv_rem, bv_shl, bv_shr, bv_seq, bv_sne, bv_ptr, bv_if, bv_map, bv_nf, bv_bool, bv_sl, bv_fn, uv_not, uv_neg, eqV, nilV, nc_ptr, nc_fn, nc_if, Option.map_some, toN, Nat.mul_one, implies_true, true_and, and_true, and_self]
  refine br_dec (fun hm => ?_) (fun hm => ?_)
  · simp only [addr_add, Nat.zero_add]
    refine rd_of (v := .int .i64 s'.e) (cellOf hr.1 rfl) ?_
    simp only [isB_i, isK_i, isP_i, isTup_i, isInt_i, isSl_i, isPtr_i, isCs_i, isStr_i, isFn_i, isIf_i, rd_i, br_t, br_f, orO_s, orO_n, gd_t, bv_add, bv_sub, bv_mul, bv_eql, bv_neq, bv_lss, bv_leq, bv_gtr, bv_geq, bv_quo, bv_rem, bv_shl, bv_shr, bv_seq, bv_sne, bv_ptr, bv_if, bv_map, bv_nf, bv_bool, bv_sl, bv_fn, uv_not, uv_neg, eqV, nilV, nc_ptr, nc_fn, nc_if, Option.map_some, toN, Nat.mul_one, implies_true, true_and, and_true, and_self]
    have hrl := hr.lt
    refine br_dec (fun he => ?_) (fun he => ?_)
    · refine (whole87_c (k := 8) (by omega) hr hc (by simp) (by omega) (by omega) (by intro e; have := hl.2.2 _ e; omega)).mono ?_
      rintro _ w16 ⟨rfl, hr16, hc16, hf16⟩
      have hgB : ∀ {j}, p = some j → j.block ≠ B := fun e => by have := hfresh _ e; omega
      have hr16' := hr16.keep (Fm.drew w16) id id fun _ _ y => y
      have hN16 : w16.drew.heap[w.heap.size]? = _ := hf16.keep hN (by rintro (e | e | e); omega; omega; omega)
      have hB16 : w16.drew.heap[B]? = _ := hf16.keep hB9 (by rintro (e | e | e); exact hBA e; exact hBR e; omega)
      have hc16' : w16.drew.heap[w.heap.size + 1]? = _ := hc16
      have hown16 : w16.drew.ownsRow base 5 1 _ _ _ := (Fm.drew w16).owns (hf16.owns hown fun j hj => by
        cases p with
        | none => cases hj
        | some ad => cases hj; have := hfresh _ rfl; rintro (e | e | e) <;> omega) fun _ _ y => y
      have hF16 : Fm (fun i => i = A ∨ i = R ∨ i = B) w w16.drew := (hF.trans' hf16 (by rintro j hj (e | e | e); exact .inl e; exact .inr (.inl e); omega)).trans (Fm.drew w16).none
      have hbase16 : base ≤ w16.drew.heap.size := Nat.le_trans hbase hF16.size
      refine ⟨fun w' => w'.heap[w.heap.size + 1]? = some (.cells #[.int .u64 (rdW 8 s').1] 60 (0, 0)), hc16', ?_⟩
      simp only [isB_i, isK_i, isP_i, isTup_i, isInt_i, isSl_i, isPtr_i, isCs_i, isStr_i, isFn_i, isIf_i, rd_i, br_t, br_f, orO_s, orO_n, gd_t, bv_add, bv_sub, bv_mul, bv_eql, bv_neq, bv_lss, bv_leq, bv_gtr, bv_geq, bv_quo, bv_rem, bv_shl, bv_shr, bv_seq, bv_sne, bv_ptr, bv_if, bv_map, bv_nf, bv_bool, bv_sl, bv_fn, uv_not, uv_neg, eqV, nilV, nc_ptr, nc_fn, nc_if, Option.map_some, toN, Nat.mul_one, implies_true, true_and, and_true, and_self]
      refine rd_of (v := .int .u64 (rdW 8 s').1) (cellOf hc16' rfl) ⟨fun w' hw => rd_of (cellOf hw rfl) rfl, ?_⟩
      simp only [isB_i, isK_i, isP_i, isTup_i, isInt_i, isSl_i, isPtr_i, isCs_i, isStr_i, isFn_i, isIf_i, rd_i, br_t, br_f, orO_s, orO_n, gd_t, bv_add, bv_sub, bv_mul, bv_eql, bv_neq, bv_lss, bv_leq, bv_gtr, bv_geq, bv_quo, bv_rem, bv_shl, bv_shr, bv_seq, bv_sne, bv_ptr, bv_if, bv_map, bv_nf, bv_bool, bv_sl, bv_fn, uv_not, uv_neg, eqV, nilV, nc_ptr, nc_fn, nc_if, Option.map_some, toN, Nat.mul_one, implies_true, true_and, and_true, and_self]
      have fin : ∀ (w41 : World) (v41 : Value), w41.ownsRow base 5 1 v41 (acc.length + 1) (acc.map (Value.int .u8) ++ [.int .u8 (IntKind.u8.wrap (rdW 8 s').1)]) → (∀ ad, (∃ n c, v41 = .slice (some ad) n c) → w.heap.size + 2 ≤ ad.block) → Fm (fun i => (Value.slice p acc.length cp).ownBlock = some i) w16.drew w41 →
          isSl v41 fun o42 n43 n44 => w41.heap[w.heap.size + 1]? = some (.cells #[.int .u64 (rdW 8 s').1] 60 (0, 0)) ∧ stC w41 ⟨B, i, none⟩ [.slice o42 n43 n44] fun w47 => w47.heap[w.heap.size + 1]? = some (.cells #[.int .u64 (rdW 8 s').1] 60 (0, 0)) ∧
            rd (w47.cell? ⟨w.heap.size, 0, none⟩) fun v48 => isK IntKind.u64 v48 fun i49 => stC w47 ⟨w.heap.size, 0, none⟩ [.int .u64 (IntKind.u64.wrap (i49 - 1))] fun w50 =>
              (∃ (m : Nat) (c : Int) (s' : RS) (acc : List Int) (p : Option Addr) (cp : Nat), w50.heap[w.heap.size]? = some (.cells #[.int .u64 m] 60 (0, 0)) ∧ w50.heap[w.heap.size + 1]? = some (.cells #[.int .u64 c] 60 (0, 0)) ∧ RdAt w50 base A R s' g ∧
                w50.heap[B]? = some (.cells (C.setIfInBounds i (.slice p acc.length cp)) tB (0, 0)) ∧ w50.ownsRow base 5 1 (.slice p acc.length cp) acc.length (acc.map (Value.int .u8)) ∧ (∀ ad, p = some ad → w.heap.size + 2 ≤ ad.block) ∧ Fm (fun i => i = A ∨ i = R ∨ i = B) w w50 ∧ rdB m s' acc = rdB n0 s1 [] ∧ acc.length + m ≤ n0) ∧
              cellN w50 w.heap.size < cellN w9 w.heap.size := by
        intro w41 v41 hown41 hfr41 hf41
        obtain ⟨p4, c4, rfl, -⟩ := own_read hown41
        have hnb : ∀ b, b < w.heap.size + 2 → ¬ (Value.slice p acc.length cp).ownBlock = some b := by
          intro b hb e
          cases p with
          | none => cases e
          | some ad => cases e; have := hfresh _ rfl; omega
        have hN41 := hf41.keep hN16 (hnb _ (by omega))
        have hc41 := hf41.keep hc16' (hnb _ (by omega))
        have hB41 := hf41.keep hB16 (hnb _ (by omega))
        have hr41 := hr16'.keep hf41 (hnb _ (by omega)) (hnb _ (by omega)) fun j hj => hnb _ (by have := hl.2.2 j hj; omega)
        refine ⟨hc41, stC_one hB41 (by simpa using hiC) rfl fun w47 hB47 hf47 => ?_⟩
        have hB47' : w47.heap[B]? = some (.cells (C.setIfInBounds i (.slice p4 (acc.length + 1) c4)) tB (0, 0)) := by
          rw [hB47]; congr 2
          apply Array.ext'
          simp
        have hN47 := hf47.keep hN41 (by omega)
        refine ⟨hf47.keep hc41 (by omega), rd_of (v := .int .u64 m) (cellOf hN47 rfl) ?_⟩
        simp only [isB_i, isK_i, isP_i, isTup_i, isInt_i, isSl_i, isPtr_i, isCs_i, isStr_i, isFn_i, isIf_i, rd_i, br_t, br_f, orO_s, orO_n, gd_t, bv_add, bv_sub, bv_mul, bv_eql, bv_neq, bv_lss, bv_leq, bv_gtr, bv_geq, bv_quo, bv_rem, bv_shl, bv_shr, bv_seq, bv_sne, bv_ptr, bv_if, bv_map, bv_nf, bv_bool, bv_sl, bv_fn, uv_not, uv_neg, eqV, nilV, nc_ptr, nc_fn, nc_if, Option.map_some, toN, Nat.mul_one, implies_true, true_and, and_true, and_self]
        refine stC_one hN47 (by simp) rfl fun w50 hN50 hf50 => ?_
        have hm1 : IntKind.u64.wrap ((m : Int) - 1) = ((m - 1 : Nat) : Int) := by simp only [IntKind.wrap, IntKind.bits, IntKind.signed]; simp; omega
        rw [hm1] at hN50
        obtain ⟨m', rfl⟩ : ∃ m', m = m' + 1 := ⟨m - 1, by omega⟩
        have hno : ∀ b, b < w.heap.size + 2 → ¬ (Value.slice p4 (acc.length + 1) c4).ownBlock = some b := by
          intro b hb e
          cases p4 with
          | none => cases e
          | some ad => cases e; have := hfr41 _ ⟨_, _, rfl⟩; omega
        refine ⟨⟨m', (rdW 8 s').1, (rdW 8 s').2, acc ++ [IntKind.u8.wrap (rdW 8 s').1], p4, c4, hN50, hf50.keep (hf47.keep hc41 (by omega)) (by omega), ?_, ?_, ?_, (fun ad e => hfr41 ad ⟨_, _, by rw [e]⟩), ?_, ?_, ?_⟩, ?_⟩
        · exact (hr41.keep hf47 (fun e => hBA e.symm) (fun e => hBR e.symm) (fun j hj e => hBg (by rw [hj, e]))).keep hf50 (by omega) (by omega) (fun j hj => by have := hl.2.2 j hj; omega)
        · rw [List.length_append]; exact hf50.keep hB47' (by omega)
        · rw [List.length_append, List.map_append]
          exact hf50.owns (hf47.owns hown41 fun j hj e => hno _ (by omega) hj) fun j hj e => hno _ (by omega) hj
        · refine ((hF16.trans' hf41 ?_).trans' hf47 ?_).trans' hf50 ?_
          · intro j hj e; exact absurd e (hnb j (by omega))
          · rintro j hj e; exact .inr (.inr e)
          · rintro j hj e; omega
        · rw [← hrd]
          conv => rhs; unfold rdB
          rw [if_pos he]
        · rw [List.length_append, List.length_singleton]; omega
        · rw [cellN_of hN50, cellN_of hN]; omega
      have hp16 : ∀ j, (Value.slice p acc.length cp).ownBlock = some j → w.heap.size + 2 ≤ j := by
        intro j e
        cases p with
        | none => cases e
        | some ad => cases e; exact hfresh _ rfl
      have hs16 : w.heap.size + 2 ≤ w16.drew.heap.size := lt_of_blk hc16'
      have app : ∀ (w36 : World), w36.heap[w16.drew.heap.size]? = some (.cells #[.int .u8 (IntKind.u8.wrap (rdW 8 s').1)] 5 (0, 0)) → Fm none' w16.drew w36 → runs Try.prog (Builtin.append_ #[25, 25] 25 #[.slice p acc.length cp, .slice (some ⟨w16.drew.heap.size, 0, none⟩) 1 1]) w36 fun v40 w41 =>
          w41.ownsRow base 5 1 v40 (acc.length + 1) (acc.map (Value.int .u8) ++ [.int .u8 (IntKind.u8.wrap (rdW 8 s').1)]) ∧ (∀ ad, (∃ n c, v40 = .slice (some ad) n c) → w.heap.size + 2 ≤ ad.block) ∧ Fm (fun i => (Value.slice p acc.length cp).ownBlock = some i) w16.drew w41 := by
        intro w36 hb36 hf36
        refine append_at (news := [.int .u8 (IntKind.u8.wrap (rdW 8 s').1)]) (by rw [row25]) row5 rfl (hf36.owns hown16 fun _ _ y => y) rfl (fun j u hj => ?_) (by simp [Value.oneCell']) (Nat.le_trans hbase16 hf36.size) (by simp only [maxLen]; omega) (by omega) fun v40 w41 hv hf40 hbk => ⟨hv, ?_, hf36.none.trans hf40⟩
        · cases j with
          | zero => simp at hj; subst hj; rw [addr_add]; exact cellOf hb36 rfl
          | succ j => simp at hj
        · rintro ad ⟨n, c, rfl⟩
          rcases hbk with e | e
          · exact hp16 ad.block e.symm
          · have e' : ad.block = w36.heap.size := Option.some.inj e
            rw [e']; exact Nat.le_trans hs16 hf36.size
      constructor
      · refine rd_of (v := .slice p acc.length cp) (cellOf hB16 (by simp [hiC])) ?_
        simp only [isB_i, isK_i, isP_i, isTup_i, isInt_i, isSl_i, isPtr_i, isCs_i, isStr_i, isFn_i, isIf_i, rd_i, br_t, br_f, orO_s, orO_n, gd_t, bv_add, bv_sub, bv_mul, bv_eql, bv_neq, bv_lss, bv_leq, bv_gtr, bv_geq, bv_quo, bv_rem, bv_shl, bv_shr, bv_seq, bv_sne, bv_ptr, bv_if, bv_map, bv_nf, bv_bool, bv_sl, bv_fn, uv_not, uv_neg, eqV, nilV, nc_ptr, nc_fn, nc_if, Option.map_some, toN, Nat.mul_one, implies_true, true_and, and_true, and_self]
        refine ⟨hc16', build_1 (by rw [row25]) row5 rfl rfl fun w36 hb36 hs36 hf36 => ?_⟩
        simp only [isB_i, isK_i, isP_i, isTup_i, isInt_i, isSl_i, isPtr_i, isCs_i, isStr_i, isFn_i, isIf_i, rd_i, br_t, br_f, orO_s, orO_n, gd_t, bv_add, bv_sub, bv_mul, bv_eql, bv_neq, bv_lss, bv_leq, bv_gtr, bv_geq, bv_quo, bv_rem, bv_shl, bv_shr, bv_seq, bv_sne, bv_ptr, bv_if, bv_map, bv_nf, bv_bool, bv_sl, bv_fn, uv_not, uv_neg, eqV, nilV, nc_ptr, nc_fn, nc_if, Option.map_some, toN, Nat.mul_one, implies_true, true_and, and_true, and_self]
        refine ⟨hf36.keep hc16' id, ?_⟩
        obtain ⟨v, w', hr, h1, h2, h3⟩ := app w36 hb36 hf36
        exact ⟨v, w', hr, fin w' v h1 h2 h3⟩
      · refine build_1 (by rw [row25]) row5 rfl rfl fun w36 hb36 hs36 hf36 => ?_
        simp only [isB_i, isK_i, isP_i, isTup_i, isInt_i, isSl_i, isPtr_i, isCs_i, isStr_i, isFn_i, isIf_i, rd_i, br_t, br_f, orO_s, orO_n, gd_t, bv_add, bv_sub, bv_mul, bv_eql, bv_neq, bv_lss, bv_leq, bv_gtr, bv_geq, bv_quo, bv_rem, bv_shl, bv_shr, bv_seq, bv_sne, bv_ptr, bv_if, bv_map, bv_nf, bv_bool, bv_sl, bv_fn, uv_not, uv_neg, eqV, nilV, nc_ptr, nc_fn, nc_if, Option.map_some, toN, Nat.mul_one, implies_true, true_and, and_true, and_self]
        refine ⟨hf36.keep hc16' id, rd_of (v := .slice p acc.length cp) (cellOf (hf36.keep hB16 id) (by simp [hiC])) ?_⟩
        simp only [isB_i, isK_i, isP_i, isTup_i, isInt_i, isSl_i, isPtr_i, isCs_i, isStr_i, isFn_i, isIf_i, rd_i, br_t, br_f, orO_s, orO_n, gd_t, bv_add, bv_sub, bv_mul, bv_eql, bv_neq, bv_lss, bv_leq, bv_gtr, bv_geq, bv_quo, bv_rem, bv_shl, bv_shr, bv_seq, bv_sne, bv_ptr, bv_if, bv_map, bv_nf, bv_bool, bv_sl, bv_fn, uv_not, uv_neg, eqV, nilV, nc_ptr, nc_fn, nc_if, Option.map_some, toN, Nat.mul_one, implies_true, true_and, and_true, and_self]
        refine ⟨hf36.keep hc16' id, ?_⟩
        obtain ⟨v, w', hr, h1, h2, h3⟩ := app w36 hb36 hf36
        exact ⟨v, w', hr, fin w' v h1 h2 h3⟩
    · have : rdB n0 s1 [] = (acc, s') := by
        rw [← hrd]
        cases m with
        | zero => rfl
        | succ m => unfold rdB; rw [if_neg he]
      rw [this]
      exact ⟨p, cp, ⟨rfl, hr, hB9, hF⟩, hown, fun ad e => by have := hfresh ad e; omega⟩
  · have : rdB n0 s1 [] = (acc, s') := by
      rw [← hrd]
      have : m = 0 := by omega
      subst this
      rfl
    rw [this]
    exact ⟨p, cp, ⟨rfl, hr, hB9, hF⟩, hown, fun ad e => by have := hfresh ad e; omega⟩
end Go.Proofs.Ytfekkdmnboccfaa
