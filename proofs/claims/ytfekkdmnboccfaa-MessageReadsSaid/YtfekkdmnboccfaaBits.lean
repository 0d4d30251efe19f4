/- bits: what high yields, and what Put writes.  Conditions: the writer lies as it is said to lie. -/
import Derived.Test.YtfekkdmnboccfaaC0
import Derived.Test.YtfekkdmnboccfaaMaps
namespace Go.Proofs.Ytfekkdmnboccfaa
set_option linter.unusedSimpArgs false
set_option linter.unusedVariables false
open Go Go.RowKit VC
/-- A bit of a number. -/
def bitAt (n : Int) (i : Nat) : Int := IntKind.u8.wrap (andI .u64 (n.fdiv (2 ^ (min i 64))) 1)
/-- The k lowest bits, the highest first. -/
def bitsOf (n : Int) (k : Nat) : List Int := (List.range k).map fun j => bitAt n (k - 1 - j)
theorem bitsOf_length (n : Int) (k : Nat) : (bitsOf n k).length = k := by simp [bitsOf]
theorem bitsOf_take (n : Int) (k j : Nat) (hj : j < k) : (bitsOf n k).take (j + 1) = (bitsOf n k).take j ++ [bitAt n (k - 1 - j)] := by
  rw [List.take_add_one, bitsOf, List.getElem?_map, List.getElem?_range hj]
  rfl
theorem seq59 {c0 c1 k : Nat} {n : Int} {w : World} (h0 : w.heap[c0]? = some (.cells #[.int .i64 k] 3 (0, 0))) (h1 : w.heap[c1]? = some (.cells #[.int .u64 n] 60 (0, 0))) (hk : k ≤ 64) :
    SeqStopsK Fence.wide 0 Try.prog 59 [.pointer (some ⟨c0, 0, none⟩), .pointer (some ⟨c1, 0, none⟩)].toArray (fun x : Int => ((List.range 1).map (fun (_ : Nat) => Value.int .u8 x)).toArray) (KpB fun i => i = c0 ∨ i = c1) (fun ys => ys = bitsOf n k) (fun ys => ys <+: bitsOf n k) k w := by
  intro l J Jx W hW hJ hJx hY hJ0
  have hf := below_fm hW
  have key : callV Try.prog 59 [.func (.yield l) #[] #[], .pointer (some ⟨c0, 0, none⟩), .pointer (some ⟨c1, 0, none⟩)] W fun v W' => (∃ xs, xs = bitsOf n k ∧ J xs W') ∨ (∃ pre, pre <+: bitsOf n k ∧ Jx pre W') := by
    have g0 := hf.keep h0 id
    have g1 := hf.keep h1 id
    refine vc59 _ ⟨c0, 0, none⟩ ⟨c1, 0, none⟩ W _ (rd_of (v := .int .i64 k) (cellOf g0 rfl) ?_)
    simp only [isB_i, isK_i, isP_i, isTup_i, isInt_i, isSl_i, isPtr_i, isCs_i, isStr_i, isFn_i, isIf_i, rd_i, br_t, br_f, orO_s, orO_n, gd_t, bv_add, bv_sub, bv_mul, bv_eql, bv_neq, bv_lss, bv_leq, bv_gtr, bv_geq, bv_quo, bv_rem, bv_shl, bv_shr, bv_seq, bv_sne, bv_ptr, bv_if, bv_map, bv_nf, bv_bool, bv_sl, bv_fn, uv_not, uv_neg, eqV, nilV, nc_ptr, nc_fn, nc_if, Option.map_some, toN, Nat.mul_one, implies_true, true_and, and_true, and_self]
    rw [w64 (by omega)]
    refine ⟨fun u w' => ∃ j : Nat, j ≤ k ∧ u 4 = .int .i64 ((k : Int) - 1 - j) ∧ J ((bitsOf n k).take j) w' ∧ w'.heap[c0]? = some (.cells #[.int .i64 k] 3 (0, 0)) ∧ w'.heap[c1]? = some (.cells #[.int .u64 n] 60 (0, 0)), fun u _ => (intOf (u 4) + 1).toNat, ⟨0, by omega, by simp; rfl, hJ0, g0, g1⟩, ?_⟩
    rintro u w5 ⟨j, hj, h4, hJj, g0, g1⟩
    change u 4 = .int .i64 ((k : Int) - 1 - j) at h4
    simp only [h4, isB_i, isK_i, isP_i, isTup_i, isInt_i, isSl_i, isPtr_i, isCs_i, isStr_i, isFn_i, isIf_i, rd_i, br_t, br_f, orO_s, orO_n, gd_t, bv_add, bv_sub, bv_mul, bv_eql, bv_neq, bv_lss, bv_leq, bv_gtr, bv_geq, bv_quo, bv_rem, bv_shl, bv_shr, bv_seq, bv_sne, bv_ptr, bv_if, bv_map, bv_nf, bv_bool, bv_sl, bv_fn, uv_not, uv_neg, eqV, nilV, nc_ptr, nc_fn, nc_if, Option.map_some, toN, Nat.mul_one, implies_true, true_and, and_true, and_self]
    refine br_dec (fun hi => ?_) (fun hi => ?_)
    · have hjk : j < k := by omega
      refine rd_of (v := .int .u64 n) (cellOf g1 rfl) ?_
      simp only [isB_i, isK_i, isP_i, isTup_i, isInt_i, isSl_i, isPtr_i, isCs_i, isStr_i, isFn_i, isIf_i, rd_i, br_t, br_f, orO_s, orO_n, gd_t, bv_add, bv_sub, bv_mul, bv_eql, bv_neq, bv_lss, bv_leq, bv_gtr, bv_geq, bv_quo, bv_rem, bv_shl, bv_shr, bv_seq, bv_sne, bv_ptr, bv_if, bv_map, bv_nf, bv_bool, bv_sl, bv_fn, uv_not, uv_neg, eqV, nilV, nc_ptr, nc_fn, nc_if, Option.map_some, toN, Nat.mul_one, implies_true, true_and, and_true, and_self]
      rw [show ((k : Int) - 1 - j) = ((k - 1 - j : Nat) : Int) by omega, bv_shr]
      refine rd_of rfl ?_
      simp only [isB_i, isK_i, isP_i, isTup_i, isInt_i, isSl_i, isPtr_i, isCs_i, isStr_i, isFn_i, isIf_i, rd_i, br_t, br_f, orO_s, orO_n, gd_t, bv_add, bv_sub, bv_mul, bv_eql, bv_neq, bv_lss, bv_leq, bv_gtr, bv_geq, bv_quo, bv_rem, bv_shl, bv_shr, bv_seq, bv_sne, bv_ptr, bv_if, bv_map, bv_nf, bv_bool, bv_sl, bv_fn, uv_not, uv_neg, eqV, nilV, nc_ptr, nc_fn, nc_if, Option.map_some, toN, Nat.mul_one, implies_true, true_and, and_true, and_self, callF_yield]
      refine yield_of (hY _ (bitAt n (k - 1 - j)) w5 hJj (by rw [List.length_take, bitsOf_length]; omega)) ?_
      rintro e w17 (⟨rfl, hJ1, hKp⟩ | ⟨rfl, hJx1⟩)
      · refine ⟨_, rfl, ?_⟩
        simp only [isB_i, isK_i, isP_i, isTup_i, isInt_i, isSl_i, isPtr_i, isCs_i, isStr_i, isFn_i, isIf_i, rd_i, br_t, br_f, orO_s, orO_n, gd_t, bv_add, bv_sub, bv_mul, bv_eql, bv_neq, bv_lss, bv_leq, bv_gtr, bv_geq, bv_quo, bv_rem, bv_shl, bv_shr, bv_seq, bv_sne, bv_ptr, bv_if, bv_map, bv_nf, bv_bool, bv_sl, bv_fn, uv_not, uv_neg, eqV, nilV, nc_ptr, nc_fn, nc_if, Option.map_some, toN, Nat.mul_one, implies_true, true_and, and_true, and_self, Bool.not_true]
        rw [w64 (by omega)]
        refine ⟨⟨j + 1, by omega, ?_, by rw [bitsOf_take n k j hjk]; exact hJ1, hKp _ _ (.inl rfl) g0, hKp _ _ (.inr rfl) g1⟩, ?_⟩
        · show Value.int .i64 _ = _
          congr 1; omega
        · show ((((k - 1 - j : Nat) : Int) - 1) + 1).toNat < (((k - 1 - j : Nat) : Int) + 1).toNat; omega
      · refine ⟨_, rfl, ?_⟩
        simp only [isB_i, isK_i, isP_i, isTup_i, isInt_i, isSl_i, isPtr_i, isCs_i, isStr_i, isFn_i, isIf_i, rd_i, br_t, br_f, orO_s, orO_n, gd_t, bv_add, bv_sub, bv_mul, bv_eql, bv_neq, bv_lss, bv_leq, bv_gtr, bv_geq, bv_quo, bv_rem, bv_shl, bv_shr, bv_seq, bv_sne, bv_ptr, bv_if, bv_map, bv_nf, bv_bool, bv_sl, bv_fn, uv_not, uv_neg, eqV, nilV, nc_ptr, nc_fn, nc_if, Option.map_some, toN, Nat.mul_one, implies_true, true_and, and_true, and_self, Bool.not_false]
        exact .inr ⟨_, by rw [← bitsOf_take n k j hjk]; exact List.take_prefix _ _, hJx1⟩
    · refine .inl ⟨_, rfl, ?_⟩
      rw [show j = k by omega, List.take_of_length_le (by rw [bitsOf_length]; omega)] at hJj
      exact hJj
  refine callsIn_wide.2 ?_
  exact key.2.mono fun e w' ⟨v, he, h⟩ => ⟨⟨v, he⟩, h⟩
/-! ### The bytes of bits -/
def packStep (ys : List Int) (n : Nat) (b : Int) : List Int :=
  let ys' := if n % 8 = 0 then ys ++ [0] else ys
  ys'.set (n / 8) (orI .u8 (ys'.getD (n / 8) 0) (IntKind.u8.wrap (b * 2 ^ (7 - n % 8))))
def packGo : List Int → Nat → List Int → List Int
  | ys, _, [] => ys
  | ys, n, b :: bs => packGo (packStep ys n b) (n + 1) bs
def pack (bs : List Int) : List Int := packGo [] 0 bs
theorem packGo_append : ∀ (bs cs : List Int) (ys : List Int) (n : Nat), packGo ys n (bs ++ cs) = packGo (packGo ys n bs) (n + bs.length) cs := by
  intro bs
  induction bs with
  | nil => intro cs ys n; rfl
  | cons b bs ih => intro cs ys n; simp only [List.cons_append, packGo, ih, List.length_cons]; congr 1; omega
theorem pack_snoc (bs : List Int) (b : Int) : pack (bs ++ [b]) = packStep (pack bs) bs.length b := by
  simp only [pack, packGo_append, packGo, Nat.zero_add]
theorem pack_length (bs : List Int) : (pack bs).length = (bs.length + 7) / 8 := by
  have : ∀ (bs : List Int) (ys : List Int) (n : Nat), ys.length = (n + 7) / 8 → (packGo ys n bs).length = (n + bs.length + 7) / 8 := by
    intro bs
    induction bs with
    | nil => intro ys n h; simpa [packGo] using h
    | cons b bs ih =>
      intro ys n h
      simp only [packGo]
      rw [ih]
      · simp only [List.length_cons]; congr 1; omega
      · simp only [packStep, List.length_set]
        split
        · simp; omega
        · omega
  have h := this bs [] 0 rfl
  rw [pack, h]
  congr 1; omega
/-- A writer lies at A: bits bs; its bytes lie at g, if there are any; x: what stands behind. -/
def WrAt (w : World) (base A : Nat) (T : TypeId) (x : Value) (bs : List Int) (g : Option Nat) : Prop :=
  ∃ v, w.heap[A]? = some (.cells #[v, .int .i64 bs.length, x] T (0, 0)) ∧ w.ownsRow base 5 1 v (pack bs).length ((pack bs).map (Value.int .u8)) ∧ v.ownBlock = g ∧ g ≠ some A ∧ base ≤ w.heap.size
theorem WrAt.keep {w w' : World} {base A : Nat} {T : TypeId} {x : Value} {bs : List Int} {g : Option Nat} {S : Nat → Prop} (h : WrAt w base A T x bs g) (f : Fm S w w') (hA : ¬ S A) (hg : ∀ i, g = some i → ¬ S i) : WrAt w' base A T x bs g := by
  obtain ⟨v, h1, h2, h3, h4, h5⟩ := h
  exact ⟨v, f.keep h1 hA, f.owns h2 fun i hi => hg i (h3 ▸ hi), h3, h4, Nat.le_trans h5 f.size⟩
theorem WrAt.cellsG {w : World} {base A : Nat} {T : TypeId} {x : Value} {bs : List Int} {g : Option Nat} (h : WrAt w base A T x bs g) {i : Nat} (hi : g = some i) : base ≤ i ∧ ∃ c t, w.heap[i]? = some (.cells c t (0, 0)) := by
  obtain ⟨v, h1, h2, h3, h4, h5⟩ := h
  obtain ⟨hb, cur, hc⟩ := own_block h2 (h3.trans hi)
  exact ⟨hb, cur, _, hc⟩
end Go.Proofs.Ytfekkdmnboccfaa
