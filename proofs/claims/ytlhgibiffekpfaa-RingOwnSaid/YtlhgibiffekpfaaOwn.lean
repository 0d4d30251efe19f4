/- RingOwn comes to true and turns nothing that was there.  Conditions: the argument's cells hold numbers. -/
import Derived.Test.YtlhgibiffekpfaaStops
import Derived.Test.YtlhgibiffekpfaaTblP
import Derived.Test.YtlhgibiffekpfaaD1
namespace Go.Proofs.Ytlhgibiffekpfaa
set_option linter.unusedSimpArgs false
set_option linter.unusedVariables false
open Go Go.RowKit VC
/-- The first k of some kind, by their ids. -/
def firstA {α : Type} (f : Nat → α) (k : Nat) : List (Int × α) := (List.range k).map fun (i : Nat) => ((i : Int) + 1, f i)
theorem firstA_length {α : Type} (f : Nat → α) (k : Nat) : (firstA f k).length = k := by simp [firstA]
theorem firstA_succ {α : Type} (f : Nat → α) (k : Nat) : firstA f (k + 1) = firstA f k ++ [((k : Int) + 1, f k)] := by simp [firstA, List.range_succ]
theorem firstA_none {α : Type} (f : Nat → α) (k : Nat) : getM ((k : Int) + 1) (firstA f k) = none := by
  rw [getM_mem]
  intro h
  simp only [firstA, List.map_map, List.mem_map, List.mem_range, Function.comp_apply] at h
  obtain ⟨i, hi, e⟩ := h
  omega
theorem firstA_sorted {α : Type} (f : Nat → α) (k : Nat) : ((firstA f k).map (·.1)).Pairwise fun x y => x < y := by
  simp only [firstA, List.map_map]
  rw [List.pairwise_map]
  exact List.pairwise_lt_range.imp fun h => by simp only [Function.comp_apply]; omega
theorem firstA_get {α : Type} (f : Nat → α) (k j : Nat) (hj : j < k) : (firstA f k)[j]? = some ((j : Int) + 1, f j) := by
  unfold firstA
  rw [List.getElem?_map, List.getElem?_range hj]; rfl
/-- The kind of a block. -/
def kd : Obj → Nat
  | .cells _ t _ => t
  | _ => 1000
def kdAt (w : World) (i k : Nat) : Prop := (w.heap[i]?).map kd = some k
theorem kdAt.ne {w : World} {i j a b : Nat} (h : kdAt w i a) (h' : kdAt w j b) (hne : a ≠ b) : ¬ i = j := by
  rintro rfl; rw [kdAt, h'] at h; exact hne (Option.some.inj h).symm
theorem kdAt.of {w : World} {i : Nat} {c : Array Value} {t : TypeId} {f : Nat × Nat} (h : w.heap[i]? = some (.cells c t f)) : kdAt w i t := by rw [kdAt, h]; rfl
theorem kdAt.ring {α : Type} {enc : α → Value} {T e : TypeId} {w : World} {base R : Nat} {most : Int} {buf : List α} (h : RingAt enc T e w base R most buf) : kdAt w R T := by
  obtain ⟨s, raw, f, h1, _⟩ := h; exact .of h1
theorem kdAt.row {w : World} {e : TypeId} {base i : Nat} (h : rowsOf e w base i) : kdAt w i e := by obtain ⟨_, _, h⟩ := h; exact .of h
theorem kdAt.tab {α : Type} {enc : α → Value} {T : TypeId} {w : World} {B M : Nat} {most last : Int} {l : List (Int × α)} (h : TabAt enc T w B M most last l) : kdAt w B T ∧ kdAt w M 1000 := by
  obtain ⟨h1, es, clock, h2, _⟩ := h
  exact ⟨.of h1, by rw [kdAt, h2]; rfl⟩
/-- The law's things. -/
structure St7 (W : World) (R R2 B M B2 M2 n0 n2 : Nat) (p : Option Addr) (n c : Nat) (r1 : List Int) (r2 : List ByteArray) (l1 : List (Int × Int)) (a1 : Int) (l2 : List (Int × Int × Int)) (a2 : Int) (w : World) : Prop where
  g1 : RingAt (Value.int .i64) 90 3 w W.heap.size R 5 r1
  g2 : RingAt Value.string 82 9 w W.heap.size R2 5 r2
  t1 : TabAt (Value.int .i64) 85 w B M 50 a1 l1
  t2 : TabAt encP 93 w B2 M2 50 a2 l2
  b0 : w.heap[n0]? = some (.cells #[.slice p n c] 31 (0, 0))
  b2 : w.heap[n2]? = some (.cells #[.bool false] 4 (0, 0))
  ne : M ≠ M2
  lo : W.heap.size ≤ R ∧ W.heap.size ≤ R2 ∧ W.heap.size ≤ B ∧ W.heap.size ≤ M ∧ W.heap.size ≤ B2 ∧ W.heap.size ≤ M2 ∧ W.heap.size ≤ n0 ∧ W.heap.size ≤ n2
  fm : Fm none' W w
variable {W w : World} {R R2 B M B2 M2 n0 n2 : Nat} {p : Option Addr} {n c : Nat} {r1 : List Int} {r2 : List ByteArray} {l1 : List (Int × Int)} {a1 : Int} {l2 : List (Int × Int × Int)} {a2 : Int}
theorem St7.quiet {w' : World} (h : St7 W R R2 B M B2 M2 n0 n2 p n c r1 r2 l1 a1 l2 a2 w) (f : Fm none' w w') : St7 W R R2 B M B2 M2 n0 n2 p n c r1 r2 l1 a1 l2 a2 w' :=
  ⟨h.g1.keep f id fun _ _ => id, h.g2.keep f id fun _ _ => id, h.t1.keep f id id, h.t2.keep f id id, f.keep h.b0 id, f.keep h.b2 id, h.ne, h.lo, h.fm.trans f⟩
theorem St7.push1 {w' : World} {r1' : List Int} (h : St7 W R R2 B M B2 M2 n0 n2 p n c r1 r2 l1 a1 l2 a2 w) (f : Fm (fun i => i = R ∨ rowsOf 3 w W.heap.size i) w w') (g : RingAt (Value.int .i64) 90 3 w' W.heap.size R 5 r1') : St7 W R R2 B M B2 M2 n0 n2 p n c r1' r2 l1 a1 l2 a2 w' := by
  have q : ∀ {i k : Nat}, kdAt w i k → k ≠ 90 → k ≠ 3 → ¬ (i = R ∨ rowsOf 3 w W.heap.size i) := fun hk h1 h2 e => e.elim (hk.ne (.ring h.g1) h1) fun e => hk.ne (.row e) h2 rfl
  refine ⟨g, h.g2.keep f (q (.ring h.g2) (by decide) (by decide)) fun i hi => q (.row hi) (by decide) (by decide), h.t1.keep f (q (kdAt.tab h.t1).1 (by decide) (by decide)) (q (kdAt.tab h.t1).2 (by decide) (by decide)), h.t2.keep f (q (kdAt.tab h.t2).1 (by decide) (by decide)) (q (kdAt.tab h.t2).2 (by decide) (by decide)), f.keep h.b0 (q (.of h.b0) (by decide) (by decide)), f.keep h.b2 (q (.of h.b2) (by decide) (by decide)), h.ne, h.lo, h.fm.trans' f fun i hi e => ?_⟩
  have := h.lo
  rcases e with e | e
  · omega
  · have := e.1; omega
theorem St7.push2 {w' : World} {r2' : List ByteArray} (h : St7 W R R2 B M B2 M2 n0 n2 p n c r1 r2 l1 a1 l2 a2 w) (f : Fm (fun i => i = R2 ∨ rowsOf 9 w W.heap.size i) w w') (g : RingAt Value.string 82 9 w' W.heap.size R2 5 r2') : St7 W R R2 B M B2 M2 n0 n2 p n c r1 r2' l1 a1 l2 a2 w' := by
  have q : ∀ {i k : Nat}, kdAt w i k → k ≠ 82 → k ≠ 9 → ¬ (i = R2 ∨ rowsOf 9 w W.heap.size i) := fun hk h1 h2 e => e.elim (hk.ne (.ring h.g2) h1) fun e => hk.ne (.row e) h2 rfl
  refine ⟨h.g1.keep f (q (.ring h.g1) (by decide) (by decide)) fun i hi => q (.row hi) (by decide) (by decide), g, h.t1.keep f (q (kdAt.tab h.t1).1 (by decide) (by decide)) (q (kdAt.tab h.t1).2 (by decide) (by decide)), h.t2.keep f (q (kdAt.tab h.t2).1 (by decide) (by decide)) (q (kdAt.tab h.t2).2 (by decide) (by decide)), f.keep h.b0 (q (.of h.b0) (by decide) (by decide)), f.keep h.b2 (q (.of h.b2) (by decide) (by decide)), h.ne, h.lo, h.fm.trans' f fun i hi e => ?_⟩
  have := h.lo
  rcases e with e | e
  · omega
  · have := e.1; omega
theorem St7.add1 {w' : World} {l1' : List (Int × Int)} {a1' : Int} (h : St7 W R R2 B M B2 M2 n0 n2 p n c r1 r2 l1 a1 l2 a2 w) (f : Fm (fun i => i = B ∨ i = M) w w') (g : TabAt (Value.int .i64) 85 w' B M 50 a1' l1') : St7 W R R2 B M B2 M2 n0 n2 p n c r1 r2 l1' a1' l2 a2 w' := by
  have q : ∀ {i k : Nat}, kdAt w i k → k ≠ 85 → k ≠ 1000 → ¬ (i = B ∨ i = M) := fun hk h1 h2 e => e.elim (hk.ne (kdAt.tab h.t1).1 h1) (hk.ne (kdAt.tab h.t1).2 h2)
  refine ⟨h.g1.keep f (q (.ring h.g1) (by decide) (by decide)) fun i hi => q (.row hi) (by decide) (by decide), h.g2.keep f (q (.ring h.g2) (by decide) (by decide)) fun i hi => q (.row hi) (by decide) (by decide), g, h.t2.keep f (q (kdAt.tab h.t2).1 (by decide) (by decide)) (fun e => e.elim ((kdAt.tab h.t2).2.ne (kdAt.tab h.t1).1 (by decide)) fun e => h.ne e.symm), f.keep h.b0 (q (.of h.b0) (by decide) (by decide)), f.keep h.b2 (q (.of h.b2) (by decide) (by decide)), h.ne, h.lo, h.fm.trans' f fun i hi e => ?_⟩
  have := h.lo
  rcases e with e | e <;> omega
theorem St7.add2 {w' : World} {l2' : List (Int × Int × Int)} {a2' : Int} (h : St7 W R R2 B M B2 M2 n0 n2 p n c r1 r2 l1 a1 l2 a2 w) (f : Fm (fun i => i = B2 ∨ i = M2) w w') (g : TabAt encP 93 w' B2 M2 50 a2' l2') : St7 W R R2 B M B2 M2 n0 n2 p n c r1 r2 l1 a1 l2' a2' w' := by
  have q : ∀ {i k : Nat}, kdAt w i k → k ≠ 93 → k ≠ 1000 → ¬ (i = B2 ∨ i = M2) := fun hk h1 h2 e => e.elim (hk.ne (kdAt.tab h.t2).1 h1) (hk.ne (kdAt.tab h.t2).2 h2)
  refine ⟨h.g1.keep f (q (.ring h.g1) (by decide) (by decide)) fun i hi => q (.row hi) (by decide) (by decide), h.g2.keep f (q (.ring h.g2) (by decide) (by decide)) fun i hi => q (.row hi) (by decide) (by decide), h.t1.keep f (q (kdAt.tab h.t1).1 (by decide) (by decide)) (fun e => e.elim ((kdAt.tab h.t1).2.ne (kdAt.tab h.t2).1 (by decide)) fun e => h.ne e), g, f.keep h.b0 (q (.of h.b0) (by decide) (by decide)), f.keep h.b2 (q (.of h.b2) (by decide) (by decide)), h.ne, h.lo, h.fm.trans' f fun i hi e => ?_⟩
  have := h.lo
  rcases e with e | e <;> omega
theorem tdiv2 (k : Nat) : Int.tdiv (k : Int) 2 = ((k / 2 : Nat) : Int) := by
  rw [Int.tdiv_eq_ediv_of_nonneg (by omega)]; omega
set_option maxHeartbeats 4000000 in
set_option maxRecDepth 20000 in
theorem own_c (ap : Option Addr) (an ac : Nat) (ss : Nat → Int) (W : World) (hl : ∀ i, i < an → ∃ ad, ap = some ad ∧ W.cell? (ad.add i) = some (.int .i64 (ss i))) :
    callV Try.prog 7 [.slice ap an ac] W fun v w' => v = .bool true ∧ Fm none' W w' := by
  refine vc7 ap an ac W _ ?_
  refine allocC_of fun w1 hb1 hs1 hf1 => ?_
  refine allocC_of fun w3 hb3 hs3 hf3 => ?_
  refine (shown_c w3).mono ?_
  rintro _ w5 ⟨rfl, hf5⟩
  simp only [isB_i, isK_i, isP_i, isTup_i, isInt_i, isSl_i, isPtr_i, isCs_i, isStr_i, isFn_i, isIf_i, rd_i, br_t, br_f, orO_s, orO_n, gd_t, bv_add, bv_sub, bv_mul, bv_eql, bv_neq, bv_lss, bv_leq, bv_gtr, bv_geq, bv_quo, bv_rem, bv_shl, bv_shr, bv_seq, bv_sne, bv_ptr, bv_if, bv_map, bv_nf, bv_bool, bv_sl, bv_fn, uv_not, uv_neg, eqV, nilV, nc_ptr, nc_fn, nc_if, Option.map_some, toN, Nat.mul_one, implies_true, true_and, and_true, and_self]
  refine (new27_c 5 w5 W.heap.size).mono ?_
  rintro _ w8 ⟨R, rfl, hR, hr8, hf8⟩
  simp only [isB_i, isK_i, isP_i, isTup_i, isInt_i, isSl_i, isPtr_i, isCs_i, isStr_i, isFn_i, isIf_i, rd_i, br_t, br_f, orO_s, orO_n, gd_t, bv_add, bv_sub, bv_mul, bv_eql, bv_neq, bv_lss, bv_leq, bv_gtr, bv_geq, bv_quo, bv_rem, bv_shl, bv_shr, bv_seq, bv_sne, bv_ptr, bv_if, bv_map, bv_nf, bv_bool, bv_sl, bv_fn, uv_not, uv_neg, eqV, nilV, nc_ptr, nc_fn, nc_if, Option.map_some, toN, Nat.mul_one, implies_true, true_and, and_true, and_self]
  refine (new12_c 5 w8 W.heap.size).mono ?_
  rintro _ w11 ⟨R2, rfl, hR2, hr11, hf11⟩
  simp only [isB_i, isK_i, isP_i, isTup_i, isInt_i, isSl_i, isPtr_i, isCs_i, isStr_i, isFn_i, isIf_i, rd_i, br_t, br_f, orO_s, orO_n, gd_t, bv_add, bv_sub, bv_mul, bv_eql, bv_neq, bv_lss, bv_leq, bv_gtr, bv_geq, bv_quo, bv_rem, bv_shl, bv_shr, bv_seq, bv_sne, bv_ptr, bv_if, bv_map, bv_nf, bv_bool, bv_sl, bv_fn, uv_not, uv_neg, eqV, nilV, nc_ptr, nc_fn, nc_if, Option.map_some, toN, Nat.mul_one, implies_true, true_and, and_true, and_self]
  refine (new16_c 50 w11).mono ?_
  rintro _ w14 ⟨B, M, rfl, hB, hM, ht14, hf14⟩
  simp only [isB_i, isK_i, isP_i, isTup_i, isInt_i, isSl_i, isPtr_i, isCs_i, isStr_i, isFn_i, isIf_i, rd_i, br_t, br_f, orO_s, orO_n, gd_t, bv_add, bv_sub, bv_mul, bv_eql, bv_neq, bv_lss, bv_leq, bv_gtr, bv_geq, bv_quo, bv_rem, bv_shl, bv_shr, bv_seq, bv_sne, bv_ptr, bv_if, bv_map, bv_nf, bv_bool, bv_sl, bv_fn, uv_not, uv_neg, eqV, nilV, nc_ptr, nc_fn, nc_if, Option.map_some, toN, Nat.mul_one, implies_true, true_and, and_true, and_self]
  refine (new33_c 50 w14).mono ?_
  rintro _ w17 ⟨B2, M2, rfl, hB2, hM2, ht17, hf17⟩
  simp only [isB_i, isK_i, isP_i, isTup_i, isInt_i, isSl_i, isPtr_i, isCs_i, isStr_i, isFn_i, isIf_i, rd_i, br_t, br_f, orO_s, orO_n, gd_t, bv_add, bv_sub, bv_mul, bv_eql, bv_neq, bv_lss, bv_leq, bv_gtr, bv_geq, bv_quo, bv_rem, bv_shl, bv_shr, bv_seq, bv_sne, bv_ptr, bv_if, bv_map, bv_nf, bv_bool, bv_sl, bv_fn, uv_not, uv_neg, eqV, nilV, nc_ptr, nc_fn, nc_if, Option.map_some, toN, Nat.mul_one, implies_true, true_and, and_true, and_self, Option.isNone_some]
  have z5 := hf5.size
  have z8 := hf8.size
  have z11 := hf11.size
  have z14 := hf14.size
  have z17 := hf17.size
  have hF817 := (hf11.trans hf14).trans hf17
  have hF17 := (hf5.trans hf8).trans hF817
  have hst : St7 W R R2 B M B2 M2 W.heap.size w1.heap.size ap an ac [] [] (firstA (fun j => ss (2 * j)) 0) 0 (firstA (fun j => ((2 * j + 1 : Nat), ss (2 * j + 1))) 0) 0 w17 :=
    { g1 := hr8.keep hF817 id fun _ _ => id
      g2 := hr11.keep (hf14.trans hf17) id fun _ _ => id
      t1 := ht14.keep hf17 id id
      t2 := ht17
      b0 := hF17.keep (hf3.keep hb1 id) id
      b2 := hF17.keep hb3 id
      ne := by have := ht14.lt.2; omega
      lo := by omega
      fm := (hf1.trans hf3).trans hF17 }
  generalize W.heap.size = n0 at hst ⊢
  generalize w1.heap.size = n2 at hst ⊢
  clear hb1 hb3 hr8 hr11 ht14 ht17
  obtain ⟨N, hN⟩ : ∃ N, N = min an 40 := ⟨_, rfl⟩
  refine ⟨fun _ w' => ∃ r1 r2, r1.length = min ((N + 1) / 2) 5 ∧ r2.length = min (N / 2) 5 ∧ St7 W R R2 B M B2 M2 n0 n2 ap an ac r1 r2 (firstA (fun j => ss (2 * j)) ((N + 1) / 2)) ((N + 1) / 2 : Nat) (firstA (fun j => (((2 * j + 1 : Nat) : Int), ss (2 * j + 1))) (N / 2)) (N / 2 : Nat) w', ?_, ?_⟩
  · refine ⟨fun u w' => ∃ (k : Nat) (r1 : List Int) (r2 : List ByteArray), k ≤ N ∧ u 8 = .int .i64 k ∧ r1.length = min ((k + 1) / 2) 5 ∧ r2.length = min (k / 2) 5 ∧ St7 W R R2 B M B2 M2 n0 n2 ap an ac r1 r2 (firstA (fun j => ss (2 * j)) ((k + 1) / 2)) ((k + 1) / 2 : Nat) (firstA (fun j => (((2 * j + 1 : Nat) : Int), ss (2 * j + 1))) (k / 2)) (k / 2 : Nat) w',
      fun u _ => N - (intOf (u 8)).toNat, ⟨0, [], [], by omega, rfl, rfl, rfl, hst⟩, ?_⟩
    rintro u w31 ⟨k, r1, r2, hk, h8, hr1, hr2, hst1⟩
    change u 8 = .int .i64 k at h8
    have c0 : w31.cell? ⟨n0, 0, none⟩ = some (.slice ap an ac) := cellOf hst1.b0 rfl
    have done : k = N → ∃ r1 r2, r1.length = min ((N + 1) / 2) 5 ∧ r2.length = min (N / 2) 5 ∧ St7 W R R2 B M B2 M2 n0 n2 ap an ac r1 r2 (firstA (fun j => ss (2 * j)) ((N + 1) / 2)) ((N + 1) / 2 : Nat) (firstA (fun j => (((2 * j + 1 : Nat) : Int), ss (2 * j + 1))) (N / 2)) (N / 2 : Nat) w31 := by
      rintro rfl; exact ⟨r1, r2, hr1, hr2, hst1⟩
    simp only [h8, c0, isB_i, isK_i, isP_i, isTup_i, isInt_i, isSl_i, isPtr_i, isCs_i, isStr_i, isFn_i, isIf_i, rd_i, br_t, br_f, orO_s, orO_n, gd_t, bv_add, bv_sub, bv_mul, bv_eql, bv_neq, bv_lss, bv_leq, bv_gtr, bv_geq, bv_quo, bv_rem, bv_shl, bv_shr, bv_seq, bv_sne, bv_ptr, bv_if, bv_map, bv_nf, bv_bool, bv_sl, bv_fn, uv_not, uv_neg, eqV, nilV, nc_ptr, nc_fn, nc_if, Option.map_some, toN, Nat.mul_one, implies_true, true_and, and_true, and_self]
    refine br_dec (fun hka => ?_) (fun hka => done (by omega))
    refine br_dec (fun hk4 => ?_) (fun hk4 => done (by omega))
    have hkN : k < N := by omega
    clear done
    obtain ⟨ad, rfl, hc⟩ := hl k (by omega)
    have c1 := hst1.fm.cell hc id
    refine ⟨fun _ w' => ∃ r1 r2, r1.length = min ((k + 1 + 1) / 2) 5 ∧ r2.length = min ((k + 1) / 2) 5 ∧ St7 W R R2 B M B2 M2 n0 n2 (some ad) an ac r1 r2 (firstA (fun j => ss (2 * j)) ((k + 1 + 1) / 2)) ((k + 1 + 1) / 2 : Nat) (firstA (fun j => (((2 * j + 1 : Nat) : Int), ss (2 * j + 1))) ((k + 1) / 2)) ((k + 1) / 2 : Nat) w', ?_, ?_⟩
    · simp only [c1, isB_i, isK_i, isP_i, isTup_i, isInt_i, isSl_i, isPtr_i, isCs_i, isStr_i, isFn_i, isIf_i, rd_i, br_t, br_f, orO_s, orO_n, gd_t, bv_add, bv_sub, bv_mul, bv_eql, bv_neq, bv_lss, bv_leq, bv_gtr, bv_geq, bv_quo, bv_rem, bv_shl, bv_shr, bv_seq, bv_sne, bv_ptr, bv_if, bv_map, bv_nf, bv_bool, bv_sl, bv_fn, uv_not, uv_neg, eqV, nilV, nc_ptr, nc_fn, nc_if, Option.map_some, toN, Nat.mul_one, implies_true, true_and, and_true, and_self]
      rw [show Int.tmod (k : Int) 2 = ((k % 2 : Nat) : Int) by rw [Int.tmod_eq_emod_of_nonneg (by omega)]; omega]
      refine br_dec (fun he => ?_) (fun he => ?_)
      · have e1 : (k + 1) / 2 = k / 2 := by omega
        have e2 : (k + 1 + 1) / 2 = k / 2 + 1 := by omega
        have e3 : 2 * (k / 2) = k := by omega
        refine ⟨by omega, ?_⟩
        refine (push28_c (ss k) hst1.g1 (by omega) hst1.fm.size (by omega)).mono ?_
        rintro _ w50 ⟨-, hr50, hf50⟩
        have hst2 := hst1.push1 hf50 hr50
        have c0' : w50.cell? ⟨n0, 0, none⟩ = some (.slice (some ad) an ac) := cellOf hst2.b0 rfl
        have c1' := hst2.fm.cell hc id
        simp only [c0', c1', isB_i, isK_i, isP_i, isTup_i, isInt_i, isSl_i, isPtr_i, isCs_i, isStr_i, isFn_i, isIf_i, rd_i, br_t, br_f, orO_s, orO_n, gd_t, bv_add, bv_sub, bv_mul, bv_eql, bv_neq, bv_lss, bv_leq, bv_gtr, bv_geq, bv_quo, bv_rem, bv_shl, bv_shr, bv_seq, bv_sne, bv_ptr, bv_if, bv_map, bv_nf, bv_bool, bv_sl, bv_fn, uv_not, uv_neg, eqV, nilV, nc_ptr, nc_fn, nc_if, Option.map_some, toN, Nat.mul_one, implies_true, true_and, and_true, and_self]
        refine ⟨by omega, ?_⟩
        have ht := hst2.t1
        rw [e1] at ht
        refine (add18_c (ss k) ht (by omega)).mono ?_
        rintro _ w60 ⟨rfl, ht60, hf60⟩
        rw [firstA_length, if_neg (by omega), if_neg (by omega), setM_none (firstA_none _ _)] at ht60
        have ht61 : TabAt (Value.int .i64) 85 w60 B M 50 ((k / 2 + 1 : Nat) : Int) (firstA (fun j => ss (2 * j)) (k / 2 + 1)) := by
          rw [firstA_succ]; simpa [e3] using ht60
        have hst3 := hst2.add1 hf60 ht61
        rw [firstA_length, if_neg (by omega)]
        simp only [isB_i, isK_i, isP_i, isTup_i, isInt_i, isSl_i, isPtr_i, isCs_i, isStr_i, isFn_i, isIf_i, rd_i, br_t, br_f, orO_s, orO_n, gd_t, bv_add, bv_sub, bv_mul, bv_eql, bv_neq, bv_lss, bv_leq, bv_gtr, bv_geq, bv_quo, bv_rem, bv_shl, bv_shr, bv_seq, bv_sne, bv_ptr, bv_if, bv_map, bv_nf, bv_bool, bv_sl, bv_fn, uv_not, uv_neg, eqV, nilV, nc_ptr, nc_fn, nc_if, Option.map_some, toN, Nat.mul_one, implies_true, true_and, and_true, and_self, List.getElem?_toArray, List.getElem?_cons_zero, List.getElem?_cons_succ]
        rw [tdiv2, show IntKind.i64.wrap (((k / 2 : Nat) : Int)) = ((k / 2 : Nat) : Int) from w64 (by omega), show IntKind.i64.wrap (((k / 2 : Nat) : Int) + 1) = ((k / 2 : Nat) : Int) + 1 from w64 (by omega)]
        refine br_ndec (fun h => (h (by first | rfl | exact True.intro)).elim) (fun _ => ?_)
        refine br_ndec (fun h => (h (by first | rfl | exact True.intro)).elim) (fun _ => ?_)
        rw [e1, e2]
        refine ⟨_, _, ?_, by omega, hst3⟩
        split <;> simp <;> omega
      · have e1 : (k + 1) / 2 = k / 2 + 1 := by omega
        have e2 : (k + 1 + 1) / 2 = k / 2 + 1 := by omega
        have e3 : 2 * (k / 2) + 1 = k := by omega
        refine (push13_c _ hst1.g2 (by omega) hst1.fm.size (by omega)).mono ?_
        rintro _ w73 ⟨-, hr73, hf73⟩
        have hst2 := hst1.push2 hf73 hr73
        have c0' : w73.cell? ⟨n0, 0, none⟩ = some (.slice (some ad) an ac) := cellOf hst2.b0 rfl
        have c1' := hst2.fm.cell hc id
        simp only [c0', c1', isB_i, isK_i, isP_i, isTup_i, isInt_i, isSl_i, isPtr_i, isCs_i, isStr_i, isFn_i, isIf_i, rd_i, br_t, br_f, orO_s, orO_n, gd_t, bv_add, bv_sub, bv_mul, bv_eql, bv_neq, bv_lss, bv_leq, bv_gtr, bv_geq, bv_quo, bv_rem, bv_shl, bv_shr, bv_seq, bv_sne, bv_ptr, bv_if, bv_map, bv_nf, bv_bool, bv_sl, bv_fn, uv_not, uv_neg, eqV, nilV, nc_ptr, nc_fn, nc_if, Option.map_some, toN, Nat.mul_one, implies_true, true_and, and_true, and_self]
        refine ⟨by omega, ?_⟩
        refine (add34_c ((k : Int), ss k) hst2.t2 (by omega)).mono ?_
        rintro _ w84 ⟨rfl, ht84, hf84⟩
        rw [firstA_length, if_neg (by omega), if_neg (by omega), setM_none (firstA_none _ _)] at ht84
        have ht85 : TabAt encP 93 w84 B2 M2 50 ((k / 2 + 1 : Nat) : Int) (firstA (fun j => (((2 * j + 1 : Nat) : Int), ss (2 * j + 1))) (k / 2 + 1)) := by
          rw [firstA_succ, e3]; simpa using ht84
        have hst3 := hst2.add2 hf84 ht85
        rw [firstA_length, if_neg (by omega)]
        simp only [isB_i, isK_i, isP_i, isTup_i, isInt_i, isSl_i, isPtr_i, isCs_i, isStr_i, isFn_i, isIf_i, rd_i, br_t, br_f, orO_s, orO_n, gd_t, bv_add, bv_sub, bv_mul, bv_eql, bv_neq, bv_lss, bv_leq, bv_gtr, bv_geq, bv_quo, bv_rem, bv_shl, bv_shr, bv_seq, bv_sne, bv_ptr, bv_if, bv_map, bv_nf, bv_bool, bv_sl, bv_fn, uv_not, uv_neg, eqV, nilV, nc_ptr, nc_fn, nc_if, Option.map_some, toN, Nat.mul_one, implies_true, true_and, and_true, and_self, List.getElem?_toArray, List.getElem?_cons_zero, List.getElem?_cons_succ]
        rw [tdiv2, show IntKind.i64.wrap (((k / 2 : Nat) : Int)) = ((k / 2 : Nat) : Int) from w64 (by omega), show IntKind.i64.wrap (((k / 2 : Nat) : Int) + 1) = ((k / 2 : Nat) : Int) + 1 from w64 (by omega)]
        refine br_ndec (fun h => (h (by first | rfl | exact True.intro)).elim) (fun _ => ?_)
        refine br_ndec (fun h => (h (by first | rfl | exact True.intro)).elim) (fun _ => ?_)
        rw [e1] at hst3 hr1 ⊢
        rw [e2]
        refine ⟨_, _, by omega, ?_, hst3⟩
        split <;> simp <;> omega
    · rintro u97 w98 ⟨r1', r2', h1, h2, h3⟩
      rw [show IntKind.i64.wrap ((k : Int) + 1) = (k : Int) + 1 from w64 (by omega)]
      refine ⟨⟨k + 1, r1', r2', by omega, by simp [alist], h1, h2, h3⟩, ?_⟩
      show N - ((k : Int) + 1).toNat < N - (k : Int).toNat; omega
  rintro u102 w103 ⟨r1, r2, hr1, hr2, hst1⟩
  clear hst
  have c0 : w103.cell? ⟨n0, 0, none⟩ = some (.slice ap an ac) := cellOf hst1.b0 rfl
  simp only [c0, isB_i, isK_i, isP_i, isTup_i, isInt_i, isSl_i, isPtr_i, isCs_i, isStr_i, isFn_i, isIf_i, rd_i, br_t, br_f, orO_s, orO_n, gd_t, bv_add, bv_sub, bv_mul, bv_eql, bv_neq, bv_lss, bv_leq, bv_gtr, bv_geq, bv_quo, bv_rem, bv_shl, bv_shr, bv_seq, bv_sne, bv_ptr, bv_if, bv_map, bv_nf, bv_bool, bv_sl, bv_fn, uv_not, uv_neg, eqV, nilV, nc_ptr, nc_fn, nc_if, Option.map_some, toN, Nat.mul_one, implies_true, true_and, and_true, and_self]
  refine ⟨fun _ w' => St7 W R R2 B M B2 M2 n0 n2 ap an ac r1 r2 (firstA (fun j => ss (2 * j)) ((N + 1) / 2)) ((N + 1) / 2 : Nat) (firstA (fun j => (((2 * j + 1 : Nat) : Int), ss (2 * j + 1))) (N / 2)) (N / 2 : Nat) w', ?_, ?_⟩
  · rw [show min (an : Int) 40 = (N : Int) by omega, show IntKind.i64.wrap ((N : Int) + 1) = ((N + 1 : Nat) : Int) from (w64 (by omega)).trans (by omega), tdiv2, tdiv2, show IntKind.i64.wrap (((N + 1) / 2 : Nat) : Int) = (((N + 1) / 2 : Nat) : Int) from w64 (by omega), show IntKind.i64.wrap ((N / 2 : Nat) : Int) = ((N / 2 : Nat) : Int) from w64 (by omega)]
    refine (len30_c hst1.g1).mono ?_
    rintro _ _ ⟨rfl, rfl⟩
    simp only [isB_i, isK_i, isP_i, isTup_i, isInt_i, isSl_i, isPtr_i, isCs_i, isStr_i, isFn_i, isIf_i, rd_i, br_t, br_f, orO_s, orO_n, gd_t, bv_add, bv_sub, bv_mul, bv_eql, bv_neq, bv_lss, bv_leq, bv_gtr, bv_geq, bv_quo, bv_rem, bv_shl, bv_shr, bv_seq, bv_sne, bv_ptr, bv_if, bv_map, bv_nf, bv_bool, bv_sl, bv_fn, uv_not, uv_neg, eqV, nilV, nc_ptr, nc_fn, nc_if, Option.map_some, toN, Nat.mul_one, implies_true, true_and, and_true, and_self]
    refine br_ndec (fun h => absurd (by omega) h) (fun _ => ?_)
    refine (len14_c hst1.g2).mono ?_
    rintro _ _ ⟨rfl, rfl⟩
    simp only [isB_i, isK_i, isP_i, isTup_i, isInt_i, isSl_i, isPtr_i, isCs_i, isStr_i, isFn_i, isIf_i, rd_i, br_t, br_f, orO_s, orO_n, gd_t, bv_add, bv_sub, bv_mul, bv_eql, bv_neq, bv_lss, bv_leq, bv_gtr, bv_geq, bv_quo, bv_rem, bv_shl, bv_shr, bv_seq, bv_sne, bv_ptr, bv_if, bv_map, bv_nf, bv_bool, bv_sl, bv_fn, uv_not, uv_neg, eqV, nilV, nc_ptr, nc_fn, nc_if, Option.map_some, toN, Nat.mul_one, implies_true, true_and, and_true, and_self]
    refine br_ndec (fun h => absurd (by omega) h) (fun _ => ?_)
    refine (len17_c hst1.t1).mono ?_
    rintro _ _ ⟨rfl, rfl⟩
    simp only [isB_i, isK_i, isP_i, isTup_i, isInt_i, isSl_i, isPtr_i, isCs_i, isStr_i, isFn_i, isIf_i, rd_i, br_t, br_f, orO_s, orO_n, gd_t, bv_add, bv_sub, bv_mul, bv_eql, bv_neq, bv_lss, bv_leq, bv_gtr, bv_geq, bv_quo, bv_rem, bv_shl, bv_shr, bv_seq, bv_sne, bv_ptr, bv_if, bv_map, bv_nf, bv_bool, bv_sl, bv_fn, uv_not, uv_neg, eqV, nilV, nc_ptr, nc_fn, nc_if, Option.map_some, toN, Nat.mul_one, implies_true, true_and, and_true, and_self, firstA_length]
    refine br_ndec (fun h => (h (by first | rfl | exact True.intro)).elim) (fun _ => ?_)
    refine (len35_c hst1.t2).mono ?_
    rintro _ _ ⟨rfl, rfl⟩
    simp only [isB_i, isK_i, isP_i, isTup_i, isInt_i, isSl_i, isPtr_i, isCs_i, isStr_i, isFn_i, isIf_i, rd_i, br_t, br_f, orO_s, orO_n, gd_t, bv_add, bv_sub, bv_mul, bv_eql, bv_neq, bv_lss, bv_leq, bv_gtr, bv_geq, bv_quo, bv_rem, bv_shl, bv_shr, bv_seq, bv_sne, bv_ptr, bv_if, bv_map, bv_nf, bv_bool, bv_sl, bv_fn, uv_not, uv_neg, eqV, nilV, nc_ptr, nc_fn, nc_if, Option.map_some, toN, Nat.mul_one, implies_true, true_and, and_true, and_self, firstA_length]
    exact br_ndec (fun h => (h (by first | rfl | exact True.intro)).elim) (fun _ => hst1)
  rintro u131 w132 hst2
  have hN40 : N ≤ 40 := by omega
  have hNa : N ≤ an := by omega
  refine ⟨fun u w' => St7 W R R2 B M B2 M2 n0 n2 ap an ac r1 r2 (firstA (fun j => ss (2 * j)) ((N + 1) / 2)) ((N + 1) / 2 : Nat) (firstA (fun j => (((2 * j + 1 : Nat) : Int), ss (2 * j + 1))) (N / 2)) (N / 2 : Nat) w' ∧ Marks w' W.heap.size (u 1000000), ?_, ?_⟩
  · refine (all36_c ⟨B2, 0, none⟩ w132).mono ?_
    rintro _ w136 ⟨rfl, hb136, hs136, hf136⟩
    simp only [isB_i, isK_i, isP_i, isTup_i, isInt_i, isSl_i, isPtr_i, isCs_i, isStr_i, isFn_i, isIf_i, rd_i, br_t, br_f, orO_s, orO_n, gd_t, bv_add, bv_sub, bv_mul, bv_eql, bv_neq, bv_lss, bv_leq, bv_gtr, bv_geq, bv_quo, bv_rem, bv_shl, bv_shr, bv_seq, bv_sne, bv_ptr, bv_if, bv_map, bv_nf, bv_bool, bv_sl, bv_fn, uv_not, uv_neg, eqV, nilV, nc_ptr, nc_fn, nc_if, Option.map_some, toN, Nat.mul_one, implies_true, true_and, and_true, and_self, List.isEmpty_nil, Bool.and_true]
    refine rd_of rfl ?_
    refine rd_of rfl ?_
    have hst3 := hst2.quiet hf136
    have hW3 := hst3.fm.size
    obtain ⟨F, hF⟩ : ∃ F : Fin (N / 2) → Int × Int × Int, F = fun j => ((j.1 : Int) + 1, ((2 * j.1 + 1 : Nat) : Int), ss (2 * j.1 + 1)) := ⟨_, rfl⟩
    have hsort : (List.finRange (N / 2)).map F = sortT (0, 0) (firstA (fun j => (((2 * j + 1 : Nat) : Int), ss (2 * j + 1))) (N / 2)) := by
      rw [sortT_sorted (firstA_sorted _ _), hF]
      unfold firstA
      refine List.ext_getElem (by simp) fun i h1 h2 => ?_
      simp
    refine ⟨ent43, Fin (N / 2), fun x => enc43 (F x), KpC w136.heap.size none', fun ys => ys = List.finRange (N / 2), fun ys => ys <+: List.finRange (N / 2), _,
      fun pre W' => Fm none' w136 W',
      fun c ys W' => False,
      fun x f W' => f 14 = .int .i64 (F x).1 ∧ ∃ b, f 15 = .pointer (some ⟨b, 0, none⟩) ∧ W'.heap[b]? = some (.cells #[.int .i64 (F x).2.1, .int .i64 (F x).2.2] 58 (0, 0)),
      seq43 hb136 hst3.t2 (by rw [firstA_length]; omega) id id id (fun _ e => e.elim) hsort, KpC.t, KpC.b, ?_, ?_, ?_, ?_, ?_, ?_, ?_, ?_, ?_⟩
    · rintro pre W1 W' row h1 hg hr
      exact h1.row_below hg hr (Nat.le_refl _)
    · rintro c pre W1 W' row h hg hr
      exact h.elim
    · rintro x f _ W1 W' row ⟨h1, b, h2, h3⟩ hg hr
      exact ⟨h1, b, h2, (row_fm hg).keep h3 (row_ncell hr h3)⟩
    · exact Fm.refl _ _
    · rintro pre x W1 h1
      simp only [enc43, isB_i, isK_i, isP_i, isTup_i, isInt_i, isSl_i, isPtr_i, isCs_i, isStr_i, isFn_i, isIf_i, rd_i, br_t, br_f, orO_s, orO_n, gd_t, bv_add, bv_sub, bv_mul, bv_eql, bv_neq, bv_lss, bv_leq, bv_gtr, bv_geq, bv_quo, bv_rem, bv_shl, bv_shr, bv_seq, bv_sne, bv_ptr, bv_if, bv_map, bv_nf, bv_bool, bv_sl, bv_fn, uv_not, uv_neg, eqV, nilV, nc_ptr, nc_fn, nc_if, Option.map_some, toN, Nat.mul_one, implies_true, true_and, and_true, and_self]
      refine allocC_of fun w146 hb146 hs146 hf146 => ?_
      refine rd_of rfl ?_
      refine stC_all hb146 rfl (fun v hv => ?_) fun w147 hb147 hf147 => ?_
      · simp [cellsOf, enc43, encP, Value.cells] at hv
        rcases hv with rfl | rfl <;> rfl
      have hf : Fm none' W1 w147 := hf146.trans' hf147 fun i hi e => by omega
      exact ⟨keeps_of hf fun i e => e.elim, KpC.fm hf fun i _ e => e, h1.trans hf, rfl, _, rfl, hb147⟩
    · rintro pre x W1 h1 hlt u ⟨h14, b, h15, hb⟩
      change u 14 = _ at h14
      change u 15 = _ at h15
      have hst4 := hst3.quiet h1
      have c0 : W1.cell? ⟨n0, 0, none⟩ = some (.slice ap an ac) := cellOf hst4.b0 rfl
      have cb0 : W1.cell? ⟨b, 0, none⟩ = some (.int .i64 (F x).2.1) := cellOf hb rfl
      have cb1 : W1.cell? ⟨b, 1, none⟩ = some (.int .i64 (F x).2.2) := cellOf hb rfl
      obtain ⟨j, hj⟩ := x
      have hFx : F ⟨j, hj⟩ = ((j : Int) + 1, ((2 * j + 1 : Nat) : Int), ss (2 * j + 1)) := by rw [hF]
      rw [hFx] at cb0 cb1 h14
      obtain ⟨ad, rfl, hc⟩ := hl (2 * j + 1) (by omega)
      have c1 := hst4.fm.cell hc id
      have hi : IntKind.i64.wrap (IntKind.i64.wrap (2 * ((j : Int) + 1)) - 1) = ((2 * j + 1 : Nat) : Int) := by
        rw [show IntKind.i64.wrap (2 * ((j : Int) + 1)) = 2 * ((j : Int) + 1) from w64 (by omega), w64 (by omega)]; omega
      simp only [h14, h15, cell_drew, cb0, cb1, c0, addr_add, Nat.zero_add, hi, Int.toNat_natCast, c1, isB_i, isK_i, isP_i, isTup_i, isInt_i, isSl_i, isPtr_i, isCs_i, isStr_i, isFn_i, isIf_i, rd_i, br_t, br_f, orO_s, orO_n, gd_t, bv_add, bv_sub, bv_mul, bv_eql, bv_neq, bv_lss, bv_leq, bv_gtr, bv_geq, bv_quo, bv_rem, bv_shl, bv_shr, bv_seq, bv_sne, bv_ptr, bv_if, bv_map, bv_nf, bv_bool, bv_sl, bv_fn, uv_not, uv_neg, eqV, nilV, nc_ptr, nc_fn, nc_if, Option.map_some, toN, Nat.mul_one, implies_true, true_and, and_true, and_self]
      refine ⟨by omega, ?_⟩
      refine br_ndec (fun h => (h (by first | rfl | exact True.intro)).elim) (fun _ => ?_)
      refine ⟨by omega, by omega, ?_⟩
      refine br_ndec (fun h => (h (by first | rfl | exact True.intro)).elim) (fun _ => ?_)
      have hf : Fm none' W1 W1.drew := Fm.drew W1
      exact ⟨keeps_of hf fun i e => e.elim, KpC.fm hf fun i _ e => e, h1.trans hf⟩
    · rintro D ys W1 hD rfl h1 hd
      exact ⟨hst3.quiet h1, [D], rfl, by simp, fun d hd' => by simp at hd'; subst hd'; exact ⟨by omega, hd⟩⟩
    · rintro D pre W1 hD hp h hd
      exact h.elim
    · rintro y hy
      cases hy
  rintro u178 w179 ⟨hst3, hm⟩
  change Marks w179 W.heap.size (u178 1000000) at hm
  refine stC_one hst3.b2 (by simp) rfl fun w181 hw181 hf181 => ?_
  have hlo := hst3.lo
  refine (hm.keep hf181 fun i _ hd e => by rw [show i = n2 from e, hst3.b2] at hd; cases hd).leave fun w182 hf182 => ?_
  refine rd_of (v := .bool true) (cellOf (hf182.keep hw181 fun e => by rw [hw181] at e; cases e.2) rfl) ⟨rfl, ?_⟩
  exact (hst3.fm.trans' hf181 fun i hi e => by omega).trans' hf182 fun i hi e => by omega
end Go.Proofs.Ytlhgibiffekpfaa
