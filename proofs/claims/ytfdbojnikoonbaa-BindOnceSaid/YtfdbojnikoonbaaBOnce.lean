/- BindOnce comes to true and turns nothing that was there.  Conditions: the argument's cells hold operations. -/
import Derived.Test.YtfdbojnikoonbaaKnown
import Derived.Test.YtfdbojnikoonbaaC4
namespace Go.Proofs.Ytfdbojnikoonbaa
set_option linter.unusedSimpArgs false
set_option linter.unusedVariables false
open Go Go.RowKit VC
/-- A table beyond what was there at the start, and not in X. -/
def OneX (W w : World) (X : Nat → Prop) (T : Nat) (s : St) : Prop := ∃ B : Nat → Prop, TabAt w B T s ∧ ∀ i, B i → W.heap.size ≤ i ∧ i < w.heap.size ∧ ¬ X i
variable {W w : World} {X : Nat → Prop} {T : Nat} {s : St}
theorem OneX.keep {w' : World} {S : Nat → Prop} (h : OneX W w X T s) (f : Fm S w w') (hS : ∀ i, i < w.heap.size → S i → X i) : OneX W w' X T s := by
  obtain ⟨B, h1, h3⟩ := h
  have := f.size
  exact ⟨B, h1.keep (S := fun i => i < w.heap.size ∧ S i) (f.mono fun i hi y => ⟨hi, y⟩) fun i y z => (h3 i z).2.2 (hS i y.1 y.2), fun i hi => ⟨(h3 i hi).1, by have := (h3 i hi).2.1; omega, (h3 i hi).2.2⟩⟩
theorem OneX.re {X' : Nat → Prop} (h : OneX W w X T s) (hx : ∀ i, i < w.heap.size → X' i → X i) : OneX W w X' T s := by
  obtain ⟨B, h1, h3⟩ := h
  exact ⟨B, h1, fun i hi => ⟨(h3 i hi).1, (h3 i hi).2.1, fun y => (h3 i hi).2.2 (hx i (h3 i hi).2.1 y)⟩⟩
theorem OneX.of {w' : World} {B : Nat → Prop} {s' : St} {r v : Value} (h3 : ∀ i, B i → W.heap.size ≤ i ∧ i < w.heap.size ∧ ¬ X i) (h1 : TabAt w B T s) (hx : ∀ i, X i → i < w.heap.size) (h : Stp B w T r s' v w') : v = r ∧ OneX W w' X T s' ∧ Fm (fun i => W.heap.size ≤ i ∧ ¬ X i) w w' := by
  obtain ⟨rfl, h5, h6⟩ := h
  have hz := h6.size
  refine ⟨rfl, ⟨_, h5, ?_⟩, h6.mono fun i _ y => ⟨(h3 i y).1, (h3 i y).2.2⟩⟩
  rintro i (y | ⟨y, z⟩)
  · have := h3 i y; exact ⟨this.1, by omega, this.2.2⟩
  · refine ⟨?_, z, fun k => by have := hx i k; omega⟩
    obtain ⟨_, _, _, hL, hB⟩ := h1
    have := h3 _ hB.1
    omega
theorem onex_bind (who p nid : Int) (h : OneX W w X T s) (hx : ∀ i, X i → i < w.heap.size) : callV Try.prog 9 [.pointer (some ⟨T, 0, none⟩), .int .i64 who, .int .u16 p, .int .i64 nid] w fun v w' =>
    v = .int .i64 (bindS s who p nid).1 ∧ OneX W w' X T (bindS s who p nid).2 ∧ Fm (fun i => W.heap.size ≤ i ∧ ¬ X i) w w' := by
  obtain ⟨B, h1, h3⟩ := h
  exact (bind9_c who p nid h1).mono fun _ _ y => OneX.of h3 h1 hx y
theorem onex_deny (who p : Int) (h : OneX W w X T s) (hx : ∀ i, X i → i < w.heap.size) : callV Try.prog 12 [.pointer (some ⟨T, 0, none⟩), .int .i64 who, .int .u16 p] w fun v w' =>
    v = .int .i64 (denyS s who p).1 ∧ OneX W w' X T (denyS s who p).2 ∧ Fm (fun i => W.heap.size ≤ i ∧ ¬ X i) w w' := by
  obtain ⟨B, h1, h3⟩ := h
  exact (deny12_c who p h1).mono fun _ _ y => OneX.of h3 h1 hx y
theorem onex_ask (who p : Int) (h : OneX W w X T s) : callV Try.prog 11 [.pointer (some ⟨T, 0, none⟩), .int .i64 who, .int .u16 p] w fun v w' => v = .tuple #[.int .i64 (askS s who p).1, .int .i64 (askS s who p).2] ∧ w' = w := by
  obtain ⟨B, h1, h3⟩ := h
  exact ask_c who p h1
theorem onex_len (h : OneX W w X T s) (hs : lenS s < 4611686018427387904) : callV Try.prog 10 [.pointer (some ⟨T, 0, none⟩)] w fun v w' => v = .int .i64 (lenS s) ∧ Fm none' w w' := by
  obtain ⟨B, h1, h3⟩ := h
  exact len10_c h1 hs
theorem onex_new (w : World) (hw : W.heap.size ≤ w.heap.size) : callV Try.prog 8 [] w fun v w' => ∃ T, v = .pointer (some ⟨T, 0, none⟩) ∧ OneX W w' (fun _ => False) T ⟨[], []⟩ ∧ Fm none' w w' :=
  (new8_c w).mono fun v w' ⟨T, h1, h2, h3⟩ => ⟨T, h1, ⟨_, h2, fun i hi => ⟨by omega, hi.2, id⟩⟩, h3⟩
theorem OneX.fm {w' : World} (h : Fm none' W w) (k : Fm (fun i => W.heap.size ≤ i ∧ ¬ X i) w w') : Fm none' W w' := h.trans' k fun i hi hx => by omega
/-- The cells of what was told. -/
def opC (x : Int × Int × Int × Int) : List Value := [.int .i64 x.1, .int .i64 x.2.1, .int .u16 x.2.2.1, .int .i64 x.2.2.2]
def flat (L : List (Int × Int × Int × Int)) : List Value := L.flatMap opC
theorem flat_snoc (L : List (Int × Int × Int × Int)) (x : Int × Int × Int × Int) : flat (L ++ [x]) = flat L ++ opC x := by simp [flat]
theorem flat_get : ∀ {L : List (Int × Int × Int × Int)} {i r : Nat} {x : Int × Int × Int × Int}, L[i]? = some x → r < 4 → (flat L)[i * 4 + r]? = (opC x)[r]? := by
  intro L
  induction L with
  | nil => intro i r x h; simp at h
  | cons y L ih =>
    intro i r x h hr
    simp only [flat, List.flatMap_cons]
    cases i with
    | zero =>
      simp only [List.getElem?_cons_zero, Option.some.injEq] at h
      subst h
      rw [List.getElem?_append_left (by simp [opC]; omega)]
      simp
    | succ i =>
      simp only [List.getElem?_cons_succ] at h
      rw [List.getElem?_append_right (by simp [opC]; omega)]
      rw [show (i + 1) * 4 + r - (opC y).length = i * 4 + r by simp [opC]; omega]
      exact ih h hr
def tri (x : Int × Int × Int × Int) : Int × Int × Int := (x.2.1, x.2.2.1, x.2.2.2)
/-- The row of what was told, read. -/
theorem known_read {v : Value} {n : Nat} {L : List (Int × Int × Int × Int)} (h : w.ownsRow W.heap.size 35 4 v n (flat L)) :
    ∃ p cp, v = .slice p n cp ∧ n = L.length ∧ ∀ i x, L[i]? = some x → ∃ g, p = some ⟨g, 0, none⟩ ∧ W.heap.size ≤ g ∧ v.ownBlock = some g ∧
      w.cell? ⟨g, i * 4 + 1, none⟩ = some (.int .i64 x.2.1) ∧ w.cell? ⟨g, i * 4 + 2, none⟩ = some (.int .u16 x.2.2.1) ∧ w.cell? ⟨g, i * 4 + 3, none⟩ = some (.int .i64 x.2.2.2) := by
  obtain ⟨p, cp, rfl, hl, hr⟩ := own_readS h
  have hfl : (flat L).length = L.length * 4 := by
    clear hl hr h
    induction L with
    | nil => rfl
    | cons y L ih => simp only [flat, List.flatMap_cons, List.length_append] at ih ⊢; rw [ih]; simp [opC]; omega
  refine ⟨p, cp, rfl, by omega, fun i x hx => ?_⟩
  obtain ⟨g, h1, h2, h3, h4⟩ := hr _ _ (flat_get (r := 1) hx (by omega))
  obtain ⟨g', h1', _, _, h5⟩ := hr _ _ (flat_get (r := 2) hx (by omega))
  obtain ⟨g'', h1'', _, _, h6⟩ := hr _ _ (flat_get (r := 3) hx (by omega))
  rw [h1] at h1' h1''
  cases h1'
  cases h1''
  exact ⟨g, h1, h2, h3, h4, h5, h6⟩
theorem row_in {v : Value} {n base : Nat} {e : TypeId} {size : Nat} {xs : List Value} (h : w.ownsRow base e size v n xs) {i : Nat} (hi : v.ownBlock = some i) : i < w.heap.size := by
  obtain ⟨_, cur, hb⟩ := own_block h hi
  exact lt_of_blk hb
set_option maxHeartbeats 2000000 in
set_option maxRecDepth 20000 in
theorem bonce_c (ap : Option Addr) (an ac : Nat) (K C Pv D : Nat → Int) (W : World) (hl : ∀ i, i < an → ∃ ad, ap = some ad ∧ cellsAt W (ad.add (i * 4)) 4 = some [.int .i64 (K i), .int .i64 (C i), .int .u16 (Pv i), .int .i64 (D i)]) :
    callV Try.prog 4 [.slice ap an ac] W fun v w' => v = .bool true ∧ Fm none' W w' := by
  refine vc4 ap an ac W _ ?_
  refine (shown_c W).mono ?_
  rintro _ w1 ⟨rfl, hf1⟩
  simp only [isB_i, isK_i, isP_i, isTup_i, isInt_i, isSl_i, isPtr_i, isCs_i, isStr_i, isFn_i, isIf_i, rd_i, br_t, br_f, orO_s, orO_n, gd_t, bv_add, bv_sub, bv_mul, bv_eql, bv_neq, bv_lss, bv_leq, bv_gtr, bv_geq, bv_quo, bv_rem, bv_shl, bv_shr, bv_seq, bv_sne, bv_ptr, bv_if, bv_map, bv_nf, bv_bool, bv_sl, bv_fn, uv_not, uv_neg, eqV, nilV, nc_ptr, nc_fn, nc_if, Option.map_some, toN, Nat.mul_one, implies_true, true_and, and_true, and_self]
  refine (onex_new (W := W) w1 hf1.size).mono ?_
  rintro _ w4 ⟨T, rfl, hT, hf4⟩
  simp only [isB_i, isK_i, isP_i, isTup_i, isInt_i, isSl_i, isPtr_i, isCs_i, isStr_i, isFn_i, isIf_i, rd_i, br_t, br_f, orO_s, orO_n, gd_t, bv_add, bv_sub, bv_mul, bv_eql, bv_neq, bv_lss, bv_leq, bv_gtr, bv_geq, bv_quo, bv_rem, bv_shl, bv_shr, bv_seq, bv_sne, bv_ptr, bv_if, bv_map, bv_nf, bv_bool, bv_sl, bv_fn, uv_not, uv_neg, eqV, nilV, nc_ptr, nc_fn, nc_if, Option.map_some, toN, Nat.mul_one, implies_true, true_and, and_true, and_self, Option.isNone_some]
  refine ⟨fun u w' => ∃ (s : St) (L : List (Int × Int × Int × Int)) (n : Nat), w'.ownsRow W.heap.size 35 4 (u 5) n (flat L) ∧ n ≤ 200 ∧ OneX W w' (fun i => (u 5).ownBlock = some i) T s ∧ InvK s (L.map tri) ∧ Fm none' W w', ?_, ?_⟩
  · refine ⟨fun u w' => ∃ (k n : Nat) (s : St) (L : List (Int × Int × Int × Int)), k ≤ 200 ∧ n ≤ k ∧ u 6 = .int .i64 k ∧ w'.ownsRow W.heap.size 35 4 (u 5) n (flat L) ∧ OneX W w' (fun i => (u 5).ownBlock = some i) T s ∧ InvK s (L.map tri) ∧ Fm none' W w', fun u _ => 200 - (intOf (u 6)).toNat, ?_, ?_⟩
    · refine ⟨0, 0, ⟨[], []⟩, [], by omega, by omega, rfl, World.ownsRow_nil .., hT.re (fun _ _ y => by cases y), invK_nil, hf1.trans hf4⟩
    rintro u w10 ⟨k, n, s, L, hk, hn, h6, hrow, hO, hI, hF⟩
    change u 6 = .int .i64 k at h6
    change w10.ownsRow W.heap.size 35 4 (u 5) n (flat L) at hrow
    change OneX W w10 (fun i => (u 5).ownBlock = some i) T s at hO
    simp only [h6, isB_i, isK_i, isP_i, isTup_i, isInt_i, isSl_i, isPtr_i, isCs_i, isStr_i, isFn_i, isIf_i, rd_i, br_t, br_f, orO_s, orO_n, gd_t, bv_add, bv_sub, bv_mul, bv_eql, bv_neq, bv_lss, bv_leq, bv_gtr, bv_geq, bv_quo, bv_rem, bv_shl, bv_shr, bv_seq, bv_sne, bv_ptr, bv_if, bv_map, bv_nf, bv_bool, bv_sl, bv_fn, uv_not, uv_neg, eqV, nilV, nc_ptr, nc_fn, nc_if, Option.map_some, toN, Nat.mul_one, implies_true, true_and, and_true, and_self]
    refine br_dec (fun hkn => ?_) (fun hkn => ⟨s, L, n, hrow, by omega, hO, hI, hF⟩)
    refine br_dec (fun hkn2 => ?_) (fun hkn2 => ⟨s, L, n, hrow, by omega, hO, hI, hF⟩)
    refine ⟨fun u' w' => ∃ (s : St) (L : List (Int × Int × Int × Int)) (n : Nat), n ≤ k + 1 ∧ w'.ownsRow W.heap.size 35 4 (u' 5) n (flat L) ∧ OneX W w' (fun i => (u' 5).ownBlock = some i) T s ∧ InvK s (L.map tri) ∧ Fm none' W w', ?_, ?_⟩
    · obtain ⟨ad, rfl, hc⟩ := hl k (by omega)
      refine ⟨by omega, rd_of (hF.cells id hc) ?_⟩
      refine allocC_of fun w19 hb19 hs19 hf19 => ?_
      refine rd_of (v := ()) rfl ?_
      refine stC_all hb19 rfl (by simp [Value.oneCell']) fun w20 hb20 hf20 => ?_
      have hg10 : ∀ i, (u 5).ownBlock = some i → i < w10.heap.size := fun i hi => row_in hrow hi
      obtain ⟨X, hX⟩ : ∃ X : Nat → Prop, X = fun i => i = w10.heap.size ∨ (u 5).ownBlock = some i := ⟨_, rfl⟩
      have hO10 : OneX W w10 X T s := hO.re fun i hi y => by rw [hX] at y; rcases y with y | y; omega; exact y
      have hO20 : OneX W w20 X T s := (hO10.keep hf19 (fun _ _ y => y.elim)).keep hf20 (fun i _ y => by rw [hX]; exact .inl y)
      have hF20 : Fm none' W w20 := (hF.trans hf19).trans' hf20 (by rintro i hi rfl; have := hF.size; omega)
      have hrow20 : w20.ownsRow W.heap.size 35 4 (u 5) n (flat L) := hf20.owns (hf19.owns hrow fun _ _ y => y) fun i hi y => by have := hg10 i hi; omega
      have hX20 : ∀ {w' : World}, w20.heap.size ≤ w'.heap.size → ∀ i, X i → i < w'.heap.size := fun hz i y => by
        rw [hX] at y
        have := lt_of_blk hb20
        rcases y with y | y
        · omega
        · have := hg10 i y; have := hf19.size; have := hf20.size; omega
      have stay : ∃ (s : St) (L : List (Int × Int × Int × Int)) (n : Nat), n ≤ k + 1 ∧ w20.ownsRow W.heap.size 35 4 (u 5) n (flat L) ∧ OneX W w20 (fun i => (u 5).ownBlock = some i) T s ∧ InvK s (L.map tri) ∧ Fm none' W w20 :=
        ⟨s, L, n, by omega, hrow20, hO20.re fun i _ y => by rw [hX]; exact .inr y, hI, hF20⟩
      refine rd_of (v := .int .i64 (K k)) (cellOf hb20 rfl) ?_
      simp only [isB_i, isK_i, isP_i, isTup_i, isInt_i, isSl_i, isPtr_i, isCs_i, isStr_i, isFn_i, isIf_i, rd_i, br_t, br_f, orO_s, orO_n, gd_t, bv_add, bv_sub, bv_mul, bv_eql, bv_neq, bv_lss, bv_leq, bv_gtr, bv_geq, bv_quo, bv_rem, bv_shl, bv_shr, bv_seq, bv_sne, bv_ptr, bv_if, bv_map, bv_nf, bv_bool, bv_sl, bv_fn, uv_not, uv_neg, eqV, nilV, nc_ptr, nc_fn, nc_if, Option.map_some, toN, Nat.mul_one, implies_true, true_and, and_true, and_self]
      refine br_dec (fun _ => stay) (fun _ => ?_)
      refine rd_of (v := .int .i64 (K k)) (cellOf hb20 rfl) ?_
      simp only [isB_i, isK_i, isP_i, isTup_i, isInt_i, isSl_i, isPtr_i, isCs_i, isStr_i, isFn_i, isIf_i, rd_i, br_t, br_f, orO_s, orO_n, gd_t, bv_add, bv_sub, bv_mul, bv_eql, bv_neq, bv_lss, bv_leq, bv_gtr, bv_geq, bv_quo, bv_rem, bv_shl, bv_shr, bv_seq, bv_sne, bv_ptr, bv_if, bv_map, bv_nf, bv_bool, bv_sl, bv_fn, uv_not, uv_neg, eqV, nilV, nc_ptr, nc_fn, nc_if, Option.map_some, toN, Nat.mul_one, implies_true, true_and, and_true, and_self]
      refine br_dec (fun _ => stay) (fun _ => ?_)
      refine ⟨fun u' w' => ∃ (e d : Int) (s' : St), u' 8 = .int .i64 e ∧ w'.heap[w10.heap.size]? = some (.cells #[.int .i64 (K k), .int .i64 (C k), .int .u16 (Pv k), .int .i64 d] 35 (0, 0)) ∧
        w'.ownsRow W.heap.size 35 4 (u 5) n (flat L) ∧ OneX W w' X T s' ∧ (e = 0 → InvK s' (L.map tri ++ [(C k, Pv k, d)])) ∧ (e ≠ 0 → InvK s' (L.map tri)) ∧ Fm none' W w' ∧ w20.heap.size ≤ w'.heap.size, ?_, ?_⟩
      · refine rd_of (v := .int .i64 (K k)) (cellOf hb20 rfl) ?_
        simp only [isB_i, isK_i, isP_i, isTup_i, isInt_i, isSl_i, isPtr_i, isCs_i, isStr_i, isFn_i, isIf_i, rd_i, br_t, br_f, orO_s, orO_n, gd_t, bv_add, bv_sub, bv_mul, bv_eql, bv_neq, bv_lss, bv_leq, bv_gtr, bv_geq, bv_quo, bv_rem, bv_shl, bv_shr, bv_seq, bv_sne, bv_ptr, bv_if, bv_map, bv_nf, bv_bool, bv_sl, bv_fn, uv_not, uv_neg, eqV, nilV, nc_ptr, nc_fn, nc_if, Option.map_some, toN, Nat.mul_one, implies_true, true_and, and_true, and_self]
        refine br_dec (fun _ => ?_) (fun _ => ?_)
        · refine stC_one hb20 (by simp) rfl fun w28 hb28 hf28 => ?_
          have hO28 : OneX W w28 X T s := hO20.keep hf28 (fun i _ y => by rw [hX]; exact .inl y)
          have hF28 : Fm none' W w28 := hF20.trans' hf28 (by rintro i hi rfl; have := hF.size; omega)
          have hrow28 := hf28.owns hrow20 fun i hi y => by have := hg10 i hi; omega
          refine rd_of (v := .int .i64 (C k)) (cellOf hb28 rfl) ?_
          simp only [isB_i, isK_i, isP_i, isTup_i, isInt_i, isSl_i, isPtr_i, isCs_i, isStr_i, isFn_i, isIf_i, rd_i, br_t, br_f, orO_s, orO_n, gd_t, bv_add, bv_sub, bv_mul, bv_eql, bv_neq, bv_lss, bv_leq, bv_gtr, bv_geq, bv_quo, bv_rem, bv_shl, bv_shr, bv_seq, bv_sne, bv_ptr, bv_if, bv_map, bv_nf, bv_bool, bv_sl, bv_fn, uv_not, uv_neg, eqV, nilV, nc_ptr, nc_fn, nc_if, Option.map_some, toN, Nat.mul_one, implies_true, true_and, and_true, and_self]
          refine rd_of (v := .int .u16 (Pv k)) (cellOf hb28 rfl) ?_
          simp only [isB_i, isK_i, isP_i, isTup_i, isInt_i, isSl_i, isPtr_i, isCs_i, isStr_i, isFn_i, isIf_i, rd_i, br_t, br_f, orO_s, orO_n, gd_t, bv_add, bv_sub, bv_mul, bv_eql, bv_neq, bv_lss, bv_leq, bv_gtr, bv_geq, bv_quo, bv_rem, bv_shl, bv_shr, bv_seq, bv_sne, bv_ptr, bv_if, bv_map, bv_nf, bv_bool, bv_sl, bv_fn, uv_not, uv_neg, eqV, nilV, nc_ptr, nc_fn, nc_if, Option.map_some, toN, Nat.mul_one, implies_true, true_and, and_true, and_self]
          refine (onex_deny (C k) (Pv k) hO28 (hX20 hf28.size)).mono ?_
          rintro _ w34 ⟨rfl, hO34, hf34⟩
          simp only [isB_i, isK_i, isP_i, isTup_i, isInt_i, isSl_i, isPtr_i, isCs_i, isStr_i, isFn_i, isIf_i, rd_i, br_t, br_f, orO_s, orO_n, gd_t, bv_add, bv_sub, bv_mul, bv_eql, bv_neq, bv_lss, bv_leq, bv_gtr, bv_geq, bv_quo, bv_rem, bv_shl, bv_shr, bv_seq, bv_sne, bv_ptr, bv_if, bv_map, bv_nf, bv_bool, bv_sl, bv_fn, uv_not, uv_neg, eqV, nilV, nc_ptr, nc_fn, nc_if, Option.map_some, toN, Nat.mul_one, implies_true, true_and, and_true, and_self]
          have hik := invK_deny (who := C k) (p := Pv k) hI
          exact ⟨_, 0, _, rfl, hf34.keep hb28 fun y => y.2 (by rw [hX]; exact .inl rfl), hf34.owns hrow28 fun i hi y => y.2 (by rw [hX]; exact .inr hi), hO34, hik.1, hik.2, OneX.fm hF28 hf34, Nat.le_trans hf28.size hf34.size⟩
        · refine rd_of (v := .int .i64 (C k)) (cellOf hb20 rfl) ?_
          simp only [isB_i, isK_i, isP_i, isTup_i, isInt_i, isSl_i, isPtr_i, isCs_i, isStr_i, isFn_i, isIf_i, rd_i, br_t, br_f, orO_s, orO_n, gd_t, bv_add, bv_sub, bv_mul, bv_eql, bv_neq, bv_lss, bv_leq, bv_gtr, bv_geq, bv_quo, bv_rem, bv_shl, bv_shr, bv_seq, bv_sne, bv_ptr, bv_if, bv_map, bv_nf, bv_bool, bv_sl, bv_fn, uv_not, uv_neg, eqV, nilV, nc_ptr, nc_fn, nc_if, Option.map_some, toN, Nat.mul_one, implies_true, true_and, and_true, and_self]
          refine rd_of (v := .int .u16 (Pv k)) (cellOf hb20 rfl) ?_
          simp only [isB_i, isK_i, isP_i, isTup_i, isInt_i, isSl_i, isPtr_i, isCs_i, isStr_i, isFn_i, isIf_i, rd_i, br_t, br_f, orO_s, orO_n, gd_t, bv_add, bv_sub, bv_mul, bv_eql, bv_neq, bv_lss, bv_leq, bv_gtr, bv_geq, bv_quo, bv_rem, bv_shl, bv_shr, bv_seq, bv_sne, bv_ptr, bv_if, bv_map, bv_nf, bv_bool, bv_sl, bv_fn, uv_not, uv_neg, eqV, nilV, nc_ptr, nc_fn, nc_if, Option.map_some, toN, Nat.mul_one, implies_true, true_and, and_true, and_self]
          refine rd_of (v := .int .i64 (D k)) (cellOf hb20 rfl) ?_
          simp only [isB_i, isK_i, isP_i, isTup_i, isInt_i, isSl_i, isPtr_i, isCs_i, isStr_i, isFn_i, isIf_i, rd_i, br_t, br_f, orO_s, orO_n, gd_t, bv_add, bv_sub, bv_mul, bv_eql, bv_neq, bv_lss, bv_leq, bv_gtr, bv_geq, bv_quo, bv_rem, bv_shl, bv_shr, bv_seq, bv_sne, bv_ptr, bv_if, bv_map, bv_nf, bv_bool, bv_sl, bv_fn, uv_not, uv_neg, eqV, nilV, nc_ptr, nc_fn, nc_if, Option.map_some, toN, Nat.mul_one, implies_true, true_and, and_true, and_self]
          refine (onex_bind (C k) (Pv k) (D k) hO20 (hX20 (Nat.le_refl _))).mono ?_
          rintro _ w34 ⟨rfl, hO34, hf34⟩
          simp only [isB_i, isK_i, isP_i, isTup_i, isInt_i, isSl_i, isPtr_i, isCs_i, isStr_i, isFn_i, isIf_i, rd_i, br_t, br_f, orO_s, orO_n, gd_t, bv_add, bv_sub, bv_mul, bv_eql, bv_neq, bv_lss, bv_leq, bv_gtr, bv_geq, bv_quo, bv_rem, bv_shl, bv_shr, bv_seq, bv_sne, bv_ptr, bv_if, bv_map, bv_nf, bv_bool, bv_sl, bv_fn, uv_not, uv_neg, eqV, nilV, nc_ptr, nc_fn, nc_if, Option.map_some, toN, Nat.mul_one, implies_true, true_and, and_true, and_self]
          have hik := invK_bind (who := C k) (p := Pv k) (nid := D k) hI
          exact ⟨_, D k, _, rfl, hf34.keep hb20 fun y => y.2 (by rw [hX]; exact .inl rfl), hf34.owns hrow20 fun i hi y => y.2 (by rw [hX]; exact .inr hi), hO34, hik.1, hik.2, OneX.fm hF20 hf34, hf34.size⟩
      · rintro u46 w47 ⟨e, d, s', h8, hb47, hrow47, hO47, hik1, hik2, hF47, hz47⟩
        change u46 8 = .int .i64 e at h8
        simp only [h8, isB_i, isK_i, isP_i, isTup_i, isInt_i, isSl_i, isPtr_i, isCs_i, isStr_i, isFn_i, isIf_i, rd_i, br_t, br_f, orO_s, orO_n, gd_t, bv_add, bv_sub, bv_mul, bv_eql, bv_neq, bv_lss, bv_leq, bv_gtr, bv_geq, bv_quo, bv_rem, bv_shl, bv_shr, bv_seq, bv_sne, bv_ptr, bv_if, bv_map, bv_nf, bv_bool, bv_sl, bv_fn, uv_not, uv_neg, eqV, nilV, nc_ptr, nc_fn, nc_if, Option.map_some, toN, Nat.mul_one, implies_true, true_and, and_true, and_self]
        refine br_dec (fun he => ?_) (fun he => ?_)
        · obtain ⟨p5, cp5, h5, hn5, -⟩ := known_read hrow47
          rw [h5]
          simp only [isB_i, isK_i, isP_i, isTup_i, isInt_i, isSl_i, isPtr_i, isCs_i, isStr_i, isFn_i, isIf_i, rd_i, br_t, br_f, orO_s, orO_n, gd_t, bv_add, bv_sub, bv_mul, bv_eql, bv_neq, bv_lss, bv_leq, bv_gtr, bv_geq, bv_quo, bv_rem, bv_shl, bv_shr, bv_seq, bv_sne, bv_ptr, bv_if, bv_map, bv_nf, bv_bool, bv_sl, bv_fn, uv_not, uv_neg, eqV, nilV, nc_ptr, nc_fn, nc_if, Option.map_some, toN, Nat.mul_one, implies_true, true_and, and_true, and_self]
          refine rd_of (cells_all hb47 rfl) ?_
          refine append_S (size := 4) (e := 35) (by rw [row33]) row35 rfl (by omega) (by omega) rfl (by simp [Value.oneCell']) (by rw [← h5]; exact hrow47) hF47.size (by simp [maxLen]; omega) (by omega) fun v' w60 hrow60 hf60 hblk => ?_
          obtain ⟨p6, cp6, rfl, -⟩ := own_readS hrow60
          simp only [isB_i, isK_i, isP_i, isTup_i, isInt_i, isSl_i, isPtr_i, isCs_i, isStr_i, isFn_i, isIf_i, rd_i, br_t, br_f, orO_s, orO_n, gd_t, bv_add, bv_sub, bv_mul, bv_eql, bv_neq, bv_lss, bv_leq, bv_gtr, bv_geq, bv_quo, bv_rem, bv_shl, bv_shr, bv_seq, bv_sne, bv_ptr, bv_if, bv_map, bv_nf, bv_bool, bv_sl, bv_fn, uv_not, uv_neg, eqV, nilV, nc_ptr, nc_fn, nc_if, Option.map_some, toN, Nat.mul_one, implies_true, true_and, and_true, and_self]
          rw [← h5] at hf60 hblk
          have hO60 : OneX W w60 X T s' := hO47.keep hf60 fun i _ y => by rw [hX]; exact .inr y
          refine ⟨s', L ++ [(K k, C k, Pv k, d)], n + 1, by omega, by rw [flat_snoc]; exact hrow60, ?_, ?_, hF47.trans' hf60 (by intro i hi y; have := (own_block hrow47 y).1; omega)⟩
          · have : OneX W w47 (fun i => (Value.slice p6 (n + 1) cp6).ownBlock = some i) T s' := hO47.re fun i hi y => by
              rw [hX]
              rcases hblk with hbk | ⟨g, hbk, hg⟩
              · exact .inr (by rw [← hbk]; exact y)
              · rw [hbk] at y; cases y; omega
            obtain ⟨B, q1, q2⟩ := hO47
            refine ⟨B, q1.keep hf60 fun i y z => (q2 i z).2.2 (by rw [hX]; exact .inr y), fun i hi => ⟨(q2 i hi).1, by have := (q2 i hi).2.1; have := hf60.size; omega, fun y => ?_⟩⟩
            rcases hblk with hbk | ⟨g, hbk, hg⟩
            · exact (q2 i hi).2.2 (by rw [hX]; exact .inr (by rw [← hbk]; exact y))
            · have hy : some g = some i := hbk.symm.trans y
              cases hy
              have := (q2 _ hi).2.1
              omega
          · rw [List.map_append]; exact hik1 he
        · exact ⟨s', L, n, by omega, hrow47, hO47.re fun i _ y => by rw [hX]; exact .inr y, hik2 he, hF47⟩
    · rintro u65 w66 ⟨s', L', n', hn', hrow', hO', hI', hF'⟩
      rw [w64 (by omega)]
      refine ⟨⟨k + 1, n', s', L', by omega, hn', rfl, hrow', hO', hI', hF'⟩, ?_⟩
      show 200 - ((k : Int) + 1).toNat < 200 - (k : Int).toNat; omega
  rintro u70 w71 ⟨s, L, n, hrow, hn, hO, hI, hF⟩
  change w71.ownsRow W.heap.size 35 4 (u70 5) n (flat L) at hrow
  change OneX W w71 (fun i => (u70 5).ownBlock = some i) T s at hO
  obtain ⟨p, cp, h5, hnL, -⟩ := known_read hrow
  obtain ⟨Ws, hWs⟩ : ∃ Ws : World → Prop, Ws = fun w' => w'.ownsRow W.heap.size 35 4 (.slice p n cp) n (flat L) ∧ OneX W w' (fun i => (Value.slice p n cp).ownBlock = some i) T s ∧ Fm none' W w' := ⟨_, rfl⟩
  rw [h5] at hrow hO
  have hW71 : Ws w71 := by rw [hWs]; exact ⟨hrow, hO, hF⟩
  have drew : ∀ {w'}, Ws w' → Ws w'.drew := fun {w'} h => by
    rw [hWs] at h ⊢
    exact ⟨(Fm.drew w').owns h.1 fun _ _ y => y, h.2.1.keep (Fm.drew w') (fun _ _ y => y.elim), h.2.2.trans (Fm.drew w')⟩
  have reads : ∀ {w'}, Ws w' → ∀ i x, L[i]? = some x → ∃ g, p = some ⟨g, 0, none⟩ ∧ w'.cell? ⟨g, i * 4 + 1, none⟩ = some (.int .i64 x.2.1) ∧ w'.cell? ⟨g, i * 4 + 2, none⟩ = some (.int .u16 x.2.2.1) ∧ w'.cell? ⟨g, i * 4 + 3, none⟩ = some (.int .i64 x.2.2.2) := by
    intro w' h i x hx
    rw [hWs] at h
    obtain ⟨p', cp', e, _, hr⟩ := known_read h.1
    cases e
    obtain ⟨g, q1, _, _, q2⟩ := hr i x hx
    exact ⟨g, q1, q2⟩
  have asks : ∀ {w'}, Ws w' → ∀ who pp, callV Try.prog 11 [.pointer (some ⟨T, 0, none⟩), .int .i64 who, .int .u16 pp] w' fun v w'' => v = .tuple #[.int .i64 (askS s who pp).1, .int .i64 (askS s who pp).2] ∧ w'' = w' := fun {w'} h who pp => by
    rw [hWs] at h
    exact onex_ask who pp h.2.1
  refine ⟨fun u w' => ∃ i : Nat, i ≤ n ∧ u 9 = .int .i64 i ∧ Ws w', fun u _ => n - (intOf (u 9)).toNat, ⟨0, by omega, rfl, hW71⟩, ?_⟩
  rintro u75 w76 ⟨i, hi, h9, hW76⟩
  change u75 9 = .int .i64 i at h9
  simp only [h9, h5, isB_i, isK_i, isP_i, isTup_i, isInt_i, isSl_i, isPtr_i, isCs_i, isStr_i, isFn_i, isIf_i, rd_i, br_t, br_f, orO_s, orO_n, gd_t, bv_add, bv_sub, bv_mul, bv_eql, bv_neq, bv_lss, bv_leq, bv_gtr, bv_geq, bv_quo, bv_rem, bv_shl, bv_shr, bv_seq, bv_sne, bv_ptr, bv_if, bv_map, bv_nf, bv_bool, bv_sl, bv_fn, uv_not, uv_neg, eqV, nilV, nc_ptr, nc_fn, nc_if, Option.map_some, toN, Nat.mul_one, implies_true, true_and, and_true, and_self]
  refine br_dec (fun hin => ?_) (fun hin => by
    have h := hW76
    rw [hWs] at h
    have hlen := hI.len
    have hlen2 : (L.map tri).length = n := by rw [List.length_map]; omega
    refine (onex_len h.2.1 (by omega)).mono ?_
    rintro _ w308 ⟨rfl, hf308⟩
    simp only [isB_i, isK_i, isP_i, isTup_i, isInt_i, isSl_i, isPtr_i, isCs_i, isStr_i, isFn_i, isIf_i, rd_i, br_t, br_f, orO_s, orO_n, gd_t, bv_add, bv_sub, bv_mul, bv_eql, bv_neq, bv_lss, bv_leq, bv_gtr, bv_geq, bv_quo, bv_rem, bv_shl, bv_shr, bv_seq, bv_sne, bv_ptr, bv_if, bv_map, bv_nf, bv_bool, bv_sl, bv_fn, uv_not, uv_neg, eqV, nilV, nc_ptr, nc_fn, nc_if, Option.map_some, toN, Nat.mul_one, implies_true, true_and, and_true, and_self]
    exact ⟨by rw [decide_eq_true (by omega)], h.2.2.trans hf308⟩)
  obtain ⟨x, hx⟩ : ∃ x, L[i]? = some x := ⟨L[i]'(by omega), by simp⟩
  obtain ⟨g, rfl, hc1, hc2, hc3⟩ := reads (drew hW76) i x hx
  refine ⟨fun _ w' => Ws w', ?_, ?_⟩
  · refine ⟨fun w' => w' = w76.drew, rfl, ?_⟩
    simp only [isB_i, isK_i, isP_i, isTup_i, isInt_i, isSl_i, isPtr_i, isCs_i, isStr_i, isFn_i, isIf_i, rd_i, br_t, br_f, orO_s, orO_n, gd_t, bv_add, bv_sub, bv_mul, bv_eql, bv_neq, bv_lss, bv_leq, bv_gtr, bv_geq, bv_quo, bv_rem, bv_shl, bv_shr, bv_seq, bv_sne, bv_ptr, bv_if, bv_map, bv_nf, bv_bool, bv_sl, bv_fn, uv_not, uv_neg, eqV, nilV, nc_ptr, nc_fn, nc_if, Option.map_some, toN, Nat.mul_one, implies_true, true_and, and_true, and_self, addr_add, Nat.zero_add]
    refine ⟨by omega, ?_, rd_of hc1 ⟨?_, ?_⟩⟩
    · intro _ _; omega
    · rintro _ rfl; exact rd_of hc1 rfl
    simp only [isB_i, isK_i, isP_i, isTup_i, isInt_i, isSl_i, isPtr_i, isCs_i, isStr_i, isFn_i, isIf_i, rd_i, br_t, br_f, orO_s, orO_n, gd_t, bv_add, bv_sub, bv_mul, bv_eql, bv_neq, bv_lss, bv_leq, bv_gtr, bv_geq, bv_quo, bv_rem, bv_shl, bv_shr, bv_seq, bv_sne, bv_ptr, bv_if, bv_map, bv_nf, bv_bool, bv_sl, bv_fn, uv_not, uv_neg, eqV, nilV, nc_ptr, nc_fn, nc_if, Option.map_some, toN, Nat.mul_one, implies_true, true_and, and_true, and_self]
    refine ⟨by omega, ?_, rd_of hc2 ⟨?_, ?_⟩⟩
    · intro _ _; omega
    · rintro _ rfl; exact rd_of hc2 rfl
    simp only [isB_i, isK_i, isP_i, isTup_i, isInt_i, isSl_i, isPtr_i, isCs_i, isStr_i, isFn_i, isIf_i, rd_i, br_t, br_f, orO_s, orO_n, gd_t, bv_add, bv_sub, bv_mul, bv_eql, bv_neq, bv_lss, bv_leq, bv_gtr, bv_geq, bv_quo, bv_rem, bv_shl, bv_shr, bv_seq, bv_sne, bv_ptr, bv_if, bv_map, bv_nf, bv_bool, bv_sl, bv_fn, uv_not, uv_neg, eqV, nilV, nc_ptr, nc_fn, nc_if, Option.map_some, toN, Nat.mul_one, implies_true, true_and, and_true, and_self]
    refine (asks (drew hW76) x.2.1 x.2.2.1).mono ?_
    rintro _ w125 ⟨rfl, rfl⟩
    simp only [isB_i, isK_i, isP_i, isTup_i, isInt_i, isSl_i, isPtr_i, isCs_i, isStr_i, isFn_i, isIf_i, rd_i, br_t, br_f, orO_s, orO_n, gd_t, bv_add, bv_sub, bv_mul, bv_eql, bv_neq, bv_lss, bv_leq, bv_gtr, bv_geq, bv_quo, bv_rem, bv_shl, bv_shr, bv_seq, bv_sne, bv_ptr, bv_if, bv_map, bv_nf, bv_bool, bv_sl, bv_fn, uv_not, uv_neg, eqV, nilV, nc_ptr, nc_fn, nc_if, Option.map_some, toN, Nat.mul_one, implies_true, true_and, and_true, and_self, List.getElem?_cons_zero, List.getElem?_cons_succ]
    have hWd := drew hW76
    obtain ⟨a1, ha1⟩ : ∃ a1, a1 = (askS s x.2.1 x.2.2.1).1 := ⟨_, rfl⟩
    rw [← ha1]
    refine br_ndec (fun _ => hWd) (fun he => ?_)
    have hpr : Pr s x.2.1 x.2.2.1 a1 := by rw [ha1]; exact ask_pr he
    have reads2 : ∀ {w'}, Ws w' → ∀ j y, L[j]? = some y → w'.cell? ⟨g, j * 4 + 1, none⟩ = some (.int .i64 y.2.1) ∧ w'.cell? ⟨g, j * 4 + 2, none⟩ = some (.int .u16 y.2.2.1) ∧ w'.cell? ⟨g, j * 4 + 3, none⟩ = some (.int .i64 y.2.2.2) := by
      intro w' h j y hy
      obtain ⟨g', q1, q2⟩ := reads h j y hy
      cases q1
      exact q2
    refine ⟨fun u w' => u 12 = .int .i64 0 ∧ u 13 = .bool true ∧ Ws w', ?_, ?_⟩
    · refine ⟨fun u w' => ∃ (j : Nat) (b : Bool), j ≤ n ∧ u 12 = .int .i64 0 ∧ u 13 = .bool b ∧ u 14 = .int .i64 j ∧ ((∃ q y, q < j ∧ L[q]? = some y ∧ tri y = (x.2.1, x.2.2.1, a1)) → b = true) ∧ Ws w', fun u _ => n - (intOf (u 14)).toNat, ?_, ?_⟩
      · exact ⟨0, false, by omega, rfl, rfl, rfl, fun ⟨q, _, hq, _⟩ => by omega, hWd⟩
      rintro u149 w150 ⟨j, b, hj, h12, h13, h14, hb, hW150⟩
      change u149 12 = .int .i64 0 at h12
      change u149 13 = .bool b at h13
      change u149 14 = .int .i64 j at h14
      simp only [h12, h13, h14, isB_i, isK_i, isP_i, isTup_i, isInt_i, isSl_i, isPtr_i, isCs_i, isStr_i, isFn_i, isIf_i, rd_i, br_t, br_f, orO_s, orO_n, gd_t, bv_add, bv_sub, bv_mul, bv_eql, bv_neq, bv_lss, bv_leq, bv_gtr, bv_geq, bv_quo, bv_rem, bv_shl, bv_shr, bv_seq, bv_sne, bv_ptr, bv_if, bv_map, bv_nf, bv_bool, bv_sl, bv_fn, uv_not, uv_neg, eqV, nilV, nc_ptr, nc_fn, nc_if, Option.map_some, toN, Nat.mul_one, implies_true, true_and, and_true, and_self]
      refine br_dec (fun hjn => ?_) (fun hjn => ⟨rfl, ?_, hW150⟩)
      · obtain ⟨y, hy⟩ : ∃ y, L[j]? = some y := ⟨L[j]'(by omega), by simp⟩
        have hW150d := drew hW150
        obtain ⟨r1, r2, r3⟩ := reads2 hW150d j y hy
        obtain ⟨x1, x2, x3⟩ := reads2 hW150d i x hx
        refine ⟨fun u w' => ∃ b' : Bool, u 12 = .int .i64 0 ∧ u 13 = .bool b' ∧ ((∃ q y, q < j + 1 ∧ L[q]? = some y ∧ tri y = (x.2.1, x.2.2.1, a1)) → b' = true) ∧ Ws w', ?_, ?_⟩
        · have more : ∀ b' : Bool, (b = true → b' = true) → (tri y = (x.2.1, x.2.2.1, a1) → b' = true) → ((∃ q y, q < j + 1 ∧ L[q]? = some y ∧ tri y = (x.2.1, x.2.2.1, a1)) → b' = true) := by
            rintro b' h1 h2 ⟨q, z, hq, hz, ht⟩
            by_cases hqj : q = j
            · subst hqj; rw [hy] at hz; cases hz; exact h2 ht
            · exact h1 (hb ⟨q, z, by omega, hz, ht⟩)
          refine ⟨fun u w' => ∃ b' : Bool, u 13 = .bool b' ∧ ((∃ q y, q < j + 1 ∧ L[q]? = some y ∧ tri y = (x.2.1, x.2.2.1, a1)) → b' = true) ∧ Ws w', ?_, ?_⟩
          · refine ⟨by omega, rd_of r1 ?_⟩
            simp only [isB_i, isK_i, isP_i, isTup_i, isInt_i, isSl_i, isPtr_i, isCs_i, isStr_i, isFn_i, isIf_i, rd_i, br_t, br_f, orO_s, orO_n, gd_t, bv_add, bv_sub, bv_mul, bv_eql, bv_neq, bv_lss, bv_leq, bv_gtr, bv_geq, bv_quo, bv_rem, bv_shl, bv_shr, bv_seq, bv_sne, bv_ptr, bv_if, bv_map, bv_nf, bv_bool, bv_sl, bv_fn, uv_not, uv_neg, eqV, nilV, nc_ptr, nc_fn, nc_if, Option.map_some, toN, Nat.mul_one, implies_true, true_and, and_true, and_self]
            refine ⟨by omega, rd_of x1 ?_⟩
            simp only [isB_i, isK_i, isP_i, isTup_i, isInt_i, isSl_i, isPtr_i, isCs_i, isStr_i, isFn_i, isIf_i, rd_i, br_t, br_f, orO_s, orO_n, gd_t, bv_add, bv_sub, bv_mul, bv_eql, bv_neq, bv_lss, bv_leq, bv_gtr, bv_geq, bv_quo, bv_rem, bv_shl, bv_shr, bv_seq, bv_sne, bv_ptr, bv_if, bv_map, bv_nf, bv_bool, bv_sl, bv_fn, uv_not, uv_neg, eqV, nilV, nc_ptr, nc_fn, nc_if, Option.map_some, toN, Nat.mul_one, implies_true, true_and, and_true, and_self]
            refine br_dec (fun e1 => ?_) (fun e1 => ⟨b, rfl, more b id fun ht => absurd (congrArg Prod.fst ht) e1, hW150d⟩)
            refine ⟨by omega, rd_of r2 ?_⟩
            simp only [isB_i, isK_i, isP_i, isTup_i, isInt_i, isSl_i, isPtr_i, isCs_i, isStr_i, isFn_i, isIf_i, rd_i, br_t, br_f, orO_s, orO_n, gd_t, bv_add, bv_sub, bv_mul, bv_eql, bv_neq, bv_lss, bv_leq, bv_gtr, bv_geq, bv_quo, bv_rem, bv_shl, bv_shr, bv_seq, bv_sne, bv_ptr, bv_if, bv_map, bv_nf, bv_bool, bv_sl, bv_fn, uv_not, uv_neg, eqV, nilV, nc_ptr, nc_fn, nc_if, Option.map_some, toN, Nat.mul_one, implies_true, true_and, and_true, and_self]
            refine ⟨by omega, rd_of x2 ?_⟩
            simp only [isB_i, isK_i, isP_i, isTup_i, isInt_i, isSl_i, isPtr_i, isCs_i, isStr_i, isFn_i, isIf_i, rd_i, br_t, br_f, orO_s, orO_n, gd_t, bv_add, bv_sub, bv_mul, bv_eql, bv_neq, bv_lss, bv_leq, bv_gtr, bv_geq, bv_quo, bv_rem, bv_shl, bv_shr, bv_seq, bv_sne, bv_ptr, bv_if, bv_map, bv_nf, bv_bool, bv_sl, bv_fn, uv_not, uv_neg, eqV, nilV, nc_ptr, nc_fn, nc_if, Option.map_some, toN, Nat.mul_one, implies_true, true_and, and_true, and_self]
            refine br_dec (fun e2 => ?_) (fun e2 => ⟨b, rfl, more b id fun ht => absurd (congrArg (fun z => z.2.1) ht) e2, hW150d⟩)
            cases b with
            | true => exact ⟨true, rfl, fun _ => rfl, hW150d⟩
            | false =>
              simp only [isB_i, isK_i, isP_i, isTup_i, isInt_i, isSl_i, isPtr_i, isCs_i, isStr_i, isFn_i, isIf_i, rd_i, br_t, br_f, orO_s, orO_n, gd_t, bv_add, bv_sub, bv_mul, bv_eql, bv_neq, bv_lss, bv_leq, bv_gtr, bv_geq, bv_quo, bv_rem, bv_shl, bv_shr, bv_seq, bv_sne, bv_ptr, bv_if, bv_map, bv_nf, bv_bool, bv_sl, bv_fn, uv_not, uv_neg, eqV, nilV, nc_ptr, nc_fn, nc_if, Option.map_some, toN, Nat.mul_one, implies_true, true_and, and_true, and_self]
              refine ⟨by omega, rd_of r3 ?_⟩
              simp only [isB_i, isK_i, isP_i, isTup_i, isInt_i, isSl_i, isPtr_i, isCs_i, isStr_i, isFn_i, isIf_i, rd_i, br_t, br_f, orO_s, orO_n, gd_t, bv_add, bv_sub, bv_mul, bv_eql, bv_neq, bv_lss, bv_leq, bv_gtr, bv_geq, bv_quo, bv_rem, bv_shl, bv_shr, bv_seq, bv_sne, bv_ptr, bv_if, bv_map, bv_nf, bv_bool, bv_sl, bv_fn, uv_not, uv_neg, eqV, nilV, nc_ptr, nc_fn, nc_if, Option.map_some, toN, Nat.mul_one, implies_true, true_and, and_true, and_self]
              refine ⟨decide (y.2.2.2 = a1), rfl, more _ (fun h => by cases h) fun ht => decide_eq_true (congrArg (fun z => z.2.2) ht), hW150d⟩
          rintro u195 w196 ⟨b', h13', hb', hW196⟩
          change u195 13 = .bool b' at h13'
          have hW196d := drew hW196
          obtain ⟨r1, r2, r3⟩ := reads2 hW196d j y hy
          simp only [h13', isB_i, isK_i, isP_i, isTup_i, isInt_i, isSl_i, isPtr_i, isCs_i, isStr_i, isFn_i, isIf_i, rd_i, br_t, br_f, orO_s, orO_n, gd_t, bv_add, bv_sub, bv_mul, bv_eql, bv_neq, bv_lss, bv_leq, bv_gtr, bv_geq, bv_quo, bv_rem, bv_shl, bv_shr, bv_seq, bv_sne, bv_ptr, bv_if, bv_map, bv_nf, bv_bool, bv_sl, bv_fn, uv_not, uv_neg, eqV, nilV, nc_ptr, nc_fn, nc_if, Option.map_some, toN, Nat.mul_one, implies_true, true_and, and_true, and_self]
          refine ⟨fun w' => w' = w196.drew, rfl, ?_⟩
          refine ⟨by omega, ?_, rd_of r1 ⟨?_, ?_⟩⟩
          · intro _ _; omega
          · rintro _ rfl; exact rd_of r1 rfl
          simp only [isB_i, isK_i, isP_i, isTup_i, isInt_i, isSl_i, isPtr_i, isCs_i, isStr_i, isFn_i, isIf_i, rd_i, br_t, br_f, orO_s, orO_n, gd_t, bv_add, bv_sub, bv_mul, bv_eql, bv_neq, bv_lss, bv_leq, bv_gtr, bv_geq, bv_quo, bv_rem, bv_shl, bv_shr, bv_seq, bv_sne, bv_ptr, bv_if, bv_map, bv_nf, bv_bool, bv_sl, bv_fn, uv_not, uv_neg, eqV, nilV, nc_ptr, nc_fn, nc_if, Option.map_some, toN, Nat.mul_one, implies_true, true_and, and_true, and_self]
          refine ⟨by omega, ?_, rd_of r2 ⟨?_, ?_⟩⟩
          · intro _ _; omega
          · rintro _ rfl; exact rd_of r2 rfl
          simp only [isB_i, isK_i, isP_i, isTup_i, isInt_i, isSl_i, isPtr_i, isCs_i, isStr_i, isFn_i, isIf_i, rd_i, br_t, br_f, orO_s, orO_n, gd_t, bv_add, bv_sub, bv_mul, bv_eql, bv_neq, bv_lss, bv_leq, bv_gtr, bv_geq, bv_quo, bv_rem, bv_shl, bv_shr, bv_seq, bv_sne, bv_ptr, bv_if, bv_map, bv_nf, bv_bool, bv_sl, bv_fn, uv_not, uv_neg, eqV, nilV, nc_ptr, nc_fn, nc_if, Option.map_some, toN, Nat.mul_one, implies_true, true_and, and_true, and_self]
          refine (asks hW196d y.2.1 y.2.2.1).mono ?_
          rintro _ w240 ⟨rfl, rfl⟩
          simp only [isB_i, isK_i, isP_i, isTup_i, isInt_i, isSl_i, isPtr_i, isCs_i, isStr_i, isFn_i, isIf_i, rd_i, br_t, br_f, orO_s, orO_n, gd_t, bv_add, bv_sub, bv_mul, bv_eql, bv_neq, bv_lss, bv_leq, bv_gtr, bv_geq, bv_quo, bv_rem, bv_shl, bv_shr, bv_seq, bv_sne, bv_ptr, bv_if, bv_map, bv_nf, bv_bool, bv_sl, bv_fn, uv_not, uv_neg, eqV, nilV, nc_ptr, nc_fn, nc_if, Option.map_some, toN, Nat.mul_one, implies_true, true_and, and_true, and_self, List.getElem?_cons_zero, List.getElem?_cons_succ]
          have hW240 := drew hW196d
          obtain ⟨r1, r2, r3⟩ := reads2 hW240 j y hy
          obtain ⟨x1, x2, x3⟩ := reads2 hW240 i x hx
          have go : ∃ b'' : Bool, Value.int .i64 0 = .int .i64 0 ∧ Value.bool b' = .bool b'' ∧ ((∃ q y, q < j + 1 ∧ L[q]? = some y ∧ tri y = (x.2.1, x.2.2.1, a1)) → b'' = true) ∧ Ws w196.drew.drew := ⟨b', rfl, rfl, hb', hW240⟩
          refine br_dec (fun e1 => ?_) (fun _ => go)
          refine br_dec (fun e2 => ?_) (fun _ => go)
          refine br_dec (fun e3 => ?_) (fun _ => go)
          have hpr2 : Pr s y.2.1 y.2.2.1 a1 := by rw [← e2]; exact ask_pr e1
          obtain ⟨q1, q2⟩ := hI.one _ _ _ _ _ e3 hpr2 hpr
          refine ⟨by omega, rd_of r1 ?_⟩
          simp only [isB_i, isK_i, isP_i, isTup_i, isInt_i, isSl_i, isPtr_i, isCs_i, isStr_i, isFn_i, isIf_i, rd_i, br_t, br_f, orO_s, orO_n, gd_t, bv_add, bv_sub, bv_mul, bv_eql, bv_neq, bv_lss, bv_leq, bv_gtr, bv_geq, bv_quo, bv_rem, bv_shl, bv_shr, bv_seq, bv_sne, bv_ptr, bv_if, bv_map, bv_nf, bv_bool, bv_sl, bv_fn, uv_not, uv_neg, eqV, nilV, nc_ptr, nc_fn, nc_if, Option.map_some, toN, Nat.mul_one, implies_true, true_and, and_true, and_self]
          refine ⟨by omega, rd_of x1 ?_⟩
          simp only [isB_i, isK_i, isP_i, isTup_i, isInt_i, isSl_i, isPtr_i, isCs_i, isStr_i, isFn_i, isIf_i, rd_i, br_t, br_f, orO_s, orO_n, gd_t, bv_add, bv_sub, bv_mul, bv_eql, bv_neq, bv_lss, bv_leq, bv_gtr, bv_geq, bv_quo, bv_rem, bv_shl, bv_shr, bv_seq, bv_sne, bv_ptr, bv_if, bv_map, bv_nf, bv_bool, bv_sl, bv_fn, uv_not, uv_neg, eqV, nilV, nc_ptr, nc_fn, nc_if, Option.map_some, toN, Nat.mul_one, implies_true, true_and, and_true, and_self]
          refine br_ndec (fun h => absurd q1 h) (fun _ => ?_)
          refine ⟨by omega, rd_of r2 ?_⟩
          simp only [isB_i, isK_i, isP_i, isTup_i, isInt_i, isSl_i, isPtr_i, isCs_i, isStr_i, isFn_i, isIf_i, rd_i, br_t, br_f, orO_s, orO_n, gd_t, bv_add, bv_sub, bv_mul, bv_eql, bv_neq, bv_lss, bv_leq, bv_gtr, bv_geq, bv_quo, bv_rem, bv_shl, bv_shr, bv_seq, bv_sne, bv_ptr, bv_if, bv_map, bv_nf, bv_bool, bv_sl, bv_fn, uv_not, uv_neg, eqV, nilV, nc_ptr, nc_fn, nc_if, Option.map_some, toN, Nat.mul_one, implies_true, true_and, and_true, and_self]
          refine ⟨by omega, rd_of x2 ?_⟩
          simp only [isB_i, isK_i, isP_i, isTup_i, isInt_i, isSl_i, isPtr_i, isCs_i, isStr_i, isFn_i, isIf_i, rd_i, br_t, br_f, orO_s, orO_n, gd_t, bv_add, bv_sub, bv_mul, bv_eql, bv_neq, bv_lss, bv_leq, bv_gtr, bv_geq, bv_quo, bv_rem, bv_shl, bv_shr, bv_seq, bv_sne, bv_ptr, bv_if, bv_map, bv_nf, bv_bool, bv_sl, bv_fn, uv_not, uv_neg, eqV, nilV, nc_ptr, nc_fn, nc_if, Option.map_some, toN, Nat.mul_one, implies_true, true_and, and_true, and_self]
          exact br_ndec (fun h => absurd q2 h) (fun _ => go)
        · rintro u292 w293 ⟨b', h12', h13', hb', hW293⟩
          rw [w64 (by omega)]
          refine ⟨⟨j + 1, b', by omega, h12', h13', rfl, hb', hW293⟩, ?_⟩
          show n - ((j : Int) + 1).toNat < n - (j : Int).toNat; omega
      · have : b = true := by
          have hm := hI.told _ _ _ hpr
          obtain ⟨y, hy, hty⟩ := List.mem_map.1 hm
          obtain ⟨q, hq⟩ := List.getElem?_of_mem hy
          have := (List.getElem?_eq_some_iff.1 hq).1
          exact hb ⟨q, y, by omega, hq, hty⟩
        rw [this]; rfl
    · rintro u297 w298 ⟨h12, h13, hW298⟩
      change u297 12 = .int .i64 0 at h12
      change u297 13 = .bool true at h13
      simp only [h12, h13, isB_i, isK_i, isP_i, isTup_i, isInt_i, isSl_i, isPtr_i, isCs_i, isStr_i, isFn_i, isIf_i, rd_i, br_t, br_f, orO_s, orO_n, gd_t, bv_add, bv_sub, bv_mul, bv_eql, bv_neq, bv_lss, bv_leq, bv_gtr, bv_geq, bv_quo, bv_rem, bv_shl, bv_shr, bv_seq, bv_sne, bv_ptr, bv_if, bv_map, bv_nf, bv_bool, bv_sl, bv_fn, uv_not, uv_neg, eqV, nilV, nc_ptr, nc_fn, nc_if, Option.map_some, toN, Nat.mul_one, implies_true, true_and, and_true, and_self, Bool.not_true]
      exact br_dec (fun h => absurd h (by omega)) (fun _ => hW298)
  · rintro u303 w304 hW304
    rw [w64 (by omega)]
    refine ⟨⟨i + 1, by omega, rfl, hW304⟩, ?_⟩
    show n - ((i : Int) + 1).toNat < n - (i : Int).toNat; omega
end Go.Proofs.Ytfdbojnikoonbaa
