/- Tables of pairs: New, Len, Add, All.  Conditions: the table lies as it is said to lie. -/
import Derived.Test.YtlhgibiffekpfaaSeqT
namespace Go.Proofs.Ytlhgibiffekpfaa
set_option linter.unusedSimpArgs false
set_option linter.unusedVariables false
open Go Go.RowKit VC
theorem new33_c (a : Int) (w : World) : callV Try.prog 33 [.int .i64 a] w fun v w' => ∃ B M, v = .pointer (some ⟨B, 0, none⟩) ∧ w.heap.size ≤ B ∧ w.heap.size ≤ M ∧ TabAt encP 93 w' B M (max a 1) 0 [] ∧ Fm none' w w' := by
  refine vc33 a w _ ?_
  refine makeM (enc := encP) (q := .i64) fun w1 hm hs hf => ?_
  refine allocC_of fun w2 hb hs2 hf2 => ?_
  exact ⟨_, _, rfl, by omega, Nat.le_refl _, ⟨hb, hm.keep hf2 id⟩, hf.trans hf2⟩
theorem len35_c {B M : Nat} {most last : Int} {l : List (Int × Int × Int)} {w : World} (h : TabAt encP 93 w B M most last l) : callV Try.prog 35 [.pointer (some ⟨B, 0, none⟩)] w fun v w' => v = .int .i64 l.length ∧ w' = w := by
  refine vc35 ⟨B, 0, none⟩ w _ (rd_of (v := .map (some M)) (cellOf h.1 rfl) ?_)
  exact lenM_ok (by rw [row91]) h.2 ⟨rfl, rfl⟩
set_option maxRecDepth 8000 in
theorem add34_c {B M : Nat} {most last : Int} {l : List (Int × Int × Int)} {w : World} (x : Int × Int) (h : TabAt encP 93 w B M most last l) (h0 : 0 ≤ last ∧ last < 4611686018427387904) :
    callV Try.prog 34 [.pointer (some ⟨B, 0, none⟩), encP x] w fun v w' => v = (if most ≤ l.length then .tuple #[.int .i64 0, .int .i64 5] else .tuple #[.int .i64 (last + 1), .int .i64 0]) ∧
      TabAt encP 93 w' B M most (if most ≤ l.length then last else last + 1) (if most ≤ l.length then l else setM (last + 1) x l) ∧ Fm (fun i => i = B ∨ i = M) w w' := by
  have hne := h.ne
  have hlt := h.lt
  obtain ⟨hB, hM⟩ := h
  refine vc34 ⟨B, 0, none⟩ [.int .i64 x.1, .int .i64 x.2] w _ ?_
  simp only [List.length_cons, List.length_nil, Nat.reduceAdd, Nat.reduceBEq, isB_i, isK_i, isP_i, isTup_i, isInt_i, isSl_i, isPtr_i, isCs_i, isStr_i, isFn_i, isIf_i, rd_i, br_t, br_f, orO_s, orO_n, gd_t, bv_add, bv_sub, bv_mul, bv_eql, bv_neq, bv_lss, bv_leq, bv_gtr, bv_geq, bv_quo, bv_rem, bv_shl, bv_shr, bv_seq, bv_sne, bv_ptr, bv_if, bv_map, bv_nf, bv_bool, bv_sl, bv_fn, uv_not, uv_neg, eqV, nilV, nc_ptr, nc_fn, nc_if, Option.map_some, toN, Nat.mul_one, implies_true, true_and, and_true, and_self]
  refine allocC_of fun w1 hb1 hs1 hf1 => ?_
  have hF1 : Fm none' w w1.drew := hf1.trans (Fm.drew w1)
  have hB' := hF1.keep hB id
  have hM' := hM.keep hF1 id
  have hx1 : w1.drew.heap[w.heap.size]? = some (.cells #[.int .i64 x.1, .int .i64 x.2] 58 (0, 0)) := hb1
  refine ⟨fun w' => w'.heap[B]? = some (.cells #[.int .i64 most, .int .i64 last, .map (some M)] 93 (0, 0)) ∧ MapAt encP .i64 w' M l, ⟨hB', hM'⟩, ?_⟩
  simp only [addr_add, Nat.zero_add, isB_i, isK_i, isP_i, isTup_i, isInt_i, isSl_i, isPtr_i, isCs_i, isStr_i, isFn_i, isIf_i, rd_i, br_t, br_f, orO_s, orO_n, gd_t, bv_add, bv_sub, bv_mul, bv_eql, bv_neq, bv_lss, bv_leq, bv_gtr, bv_geq, bv_quo, bv_rem, bv_shl, bv_shr, bv_seq, bv_sne, bv_ptr, bv_if, bv_map, bv_nf, bv_bool, bv_sl, bv_fn, uv_not, uv_neg, eqV, nilV, nc_ptr, nc_fn, nc_if, Option.map_some, toN, Nat.mul_one, implies_true, true_and, and_true, and_self]
  refine rd_of (v := .map (some M)) (cellOf hB' rfl) ⟨fun w' hw => rd_of (cellOf hw.1 rfl) rfl, ?_⟩
  refine lenM_ok (by rw [row91]) hM' ⟨fun w' hw => lenM_ok (by rw [row91]) hw.2 ⟨rfl, rfl⟩, ?_⟩
  simp only [isB_i, isK_i, isP_i, isTup_i, isInt_i, isSl_i, isPtr_i, isCs_i, isStr_i, isFn_i, isIf_i, rd_i, br_t, br_f, orO_s, orO_n, gd_t, bv_add, bv_sub, bv_mul, bv_eql, bv_neq, bv_lss, bv_leq, bv_gtr, bv_geq, bv_quo, bv_rem, bv_shl, bv_shr, bv_seq, bv_sne, bv_ptr, bv_if, bv_map, bv_nf, bv_bool, bv_sl, bv_fn, uv_not, uv_neg, eqV, nilV, nc_ptr, nc_fn, nc_if, Option.map_some, toN, Nat.mul_one, implies_true, true_and, and_true, and_self]
  refine rd_of (v := .int .i64 most) (cellOf hB' rfl) ⟨fun w' hw => rd_of (cellOf hw.1 rfl) rfl, ?_⟩
  simp only [isB_i, isK_i, isP_i, isTup_i, isInt_i, isSl_i, isPtr_i, isCs_i, isStr_i, isFn_i, isIf_i, rd_i, br_t, br_f, orO_s, orO_n, gd_t, bv_add, bv_sub, bv_mul, bv_eql, bv_neq, bv_lss, bv_leq, bv_gtr, bv_geq, bv_quo, bv_rem, bv_shl, bv_shr, bv_seq, bv_sne, bv_ptr, bv_if, bv_map, bv_nf, bv_bool, bv_sl, bv_fn, uv_not, uv_neg, eqV, nilV, nc_ptr, nc_fn, nc_if, Option.map_some, toN, Nat.mul_one, implies_true, true_and, and_true, and_self]
  refine br_dec (fun hr => ?_) (fun hr => ?_)
  · rw [if_pos hr, if_pos hr, if_pos hr]
    exact ⟨rfl, ⟨hB', hM'⟩, hF1.none⟩
  · rw [if_neg hr, if_neg hr, if_neg hr]
    refine rd_of (v := .int .i64 last) (cellOf hB' rfl) ?_
    simp only [isB_i, isK_i, isP_i, isTup_i, isInt_i, isSl_i, isPtr_i, isCs_i, isStr_i, isFn_i, isIf_i, rd_i, br_t, br_f, orO_s, orO_n, gd_t, bv_add, bv_sub, bv_mul, bv_eql, bv_neq, bv_lss, bv_leq, bv_gtr, bv_geq, bv_quo, bv_rem, bv_shl, bv_shr, bv_seq, bv_sne, bv_ptr, bv_if, bv_map, bv_nf, bv_bool, bv_sl, bv_fn, uv_not, uv_neg, eqV, nilV, nc_ptr, nc_fn, nc_if, Option.map_some, toN, Nat.mul_one, implies_true, true_and, and_true, and_self]
    rw [w64 (by omega)]
    refine stC_one hB' (by simp) rfl fun w2 hw2 hf2 => ?_
    have hw2' : w2.drew.heap[B]? = some (.cells #[.int .i64 most, .int .i64 (last + 1), .map (some M)] 93 (0, 0)) := hw2
    have hx2 : w2.drew.heap[w.heap.size]? = some (.cells #[.int .i64 x.1, .int .i64 x.2] 58 (0, 0)) := hf2.keep hx1 (by omega)
    refine ⟨fun w' => w'.heap[B]? = some (.cells #[.int .i64 most, .int .i64 (last + 1), .map (some M)] 93 (0, 0)) ∧ w'.heap[w.heap.size]? = some (.cells #[.int .i64 x.1, .int .i64 x.2] 58 (0, 0)), ⟨hw2', hx2⟩, ?_⟩
    refine rd_of (v := .map (some M)) (cellOf hw2' rfl) ⟨fun w' hw => rd_of (cellOf hw.1 rfl) rfl, ?_⟩
    refine rd_of (v := .int .i64 (last + 1)) (cellOf hw2' rfl) ⟨fun w' hw => rd_of (cellOf hw.1 rfl) rfl, ?_⟩
    simp only [isB_i, isK_i, isP_i, isTup_i, isInt_i, isSl_i, isPtr_i, isCs_i, isStr_i, isFn_i, isIf_i, rd_i, br_t, br_f, orO_s, orO_n, gd_t, bv_add, bv_sub, bv_mul, bv_eql, bv_neq, bv_lss, bv_leq, bv_gtr, bv_geq, bv_quo, bv_rem, bv_shl, bv_shr, bv_seq, bv_sne, bv_ptr, bv_if, bv_map, bv_nf, bv_bool, bv_sl, bv_fn, uv_not, uv_neg, eqV, nilV, nc_ptr, nc_fn, nc_if, Option.map_some, toN, Nat.mul_one, implies_true, true_and, and_true, and_self]
    refine rd_of (cells_all hx2 rfl) ⟨fun w' hw => rd_of (cells_all hw.2 rfl) rfl, ?_⟩
    refine update_ok (enc := encP) (v := x) (by rw [row91]) (by rw [row3]) ((hM'.keep hf2 fun e => hne e.symm).keep (Fm.drew w2) id) fun w3 hM3 hf3 => ?_
    have hB3 := hf3.keep hw2' hne
    refine ⟨⟨hB3, hf3.keep hx2 (by omega)⟩, rd_of (v := .int .i64 (last + 1)) (cellOf hB3 rfl) ?_⟩
    simp only [isB_i, isK_i, isP_i, isTup_i, isInt_i, isSl_i, isPtr_i, isCs_i, isStr_i, isFn_i, isIf_i, rd_i, br_t, br_f, orO_s, orO_n, gd_t, bv_add, bv_sub, bv_mul, bv_eql, bv_neq, bv_lss, bv_leq, bv_gtr, bv_geq, bv_quo, bv_rem, bv_shl, bv_shr, bv_seq, bv_sne, bv_ptr, bv_if, bv_map, bv_nf, bv_bool, bv_sl, bv_fn, uv_not, uv_neg, eqV, nilV, nc_ptr, nc_fn, nc_if, Option.map_some, toN, Nat.mul_one, implies_true, true_and, and_true, and_self]
    exact ⟨⟨hB3, hM3⟩, hF1.none.trans ((hf2.mono fun i _ h => .inl h).trans ((Fm.drew w2).none.trans (hf3.mono fun i _ h => .inr h)))⟩
def enc43 (x : Int × Int × Int) (i : Nat) : Value := match i with | 0 => .int .i64 x.1 | _ => encP x.2
theorem all36_c (a : Addr) (w : World) : callV Try.prog 36 [.pointer (some a)] w fun v w' => v = .func (.func 43) #[] #[.pointer (some ⟨w.heap.size, 0, none⟩)] ∧ w'.heap[w.heap.size]? = some (.cells #[.pointer (some a)] 56 (0, 0)) ∧ w.heap.size < w'.heap.size ∧ Fm none' w w' :=
  vc36 a w _ (allocC_of fun w' hb hs hf => ⟨rfl, hb, by omega, hf⟩)
/-- The elements may be named otherwise: f says what a name stands for. -/
theorem seq43 {α : Type} {f : α → Int × Int × Int} {LA : List α} {c0 B M : Nat} {most last : Int} {l : List (Int × Int × Int)} {w : World} {S : Nat → Prop} (h0 : w.heap[c0]? = some (.cells #[.pointer (some ⟨B, 0, none⟩)] 56 (0, 0))) (ht : TabAt encP 93 w B M most last l) (hl : l.length ≤ 4096)
    (hc : ¬ S c0) (hB : ¬ S B) (hM : ¬ S M) (hS : ∀ i, S i → i < w.heap.size) (hLA : LA.map f = sortT (0, 0) l) :
    SeqStopsK Fence.wide 0 Try.prog 43 [.pointer (some ⟨c0, 0, none⟩)].toArray (fun x : α => ((List.range 2).map (enc43 (f x))).toArray) (KpC w.heap.size S) (fun ys => ys = LA) (fun ys => ys <+: LA) l.length w := by
  intro lp J Jx W hW hJ hJx hY hJ0
  have hf := below_fm hW
  have hLl : LA.length = l.length := by rw [← sortT_length (0, 0) l, ← hLA, List.length_map]
  have key : callV Try.prog 43 [.func (.yield lp) #[] #[], .pointer (some ⟨c0, 0, none⟩)] W fun v W' => (∃ xs, xs = LA ∧ J xs W') ∨ (∃ pre, pre <+: LA ∧ Jx pre W') := by
    have g0 := hf.keep h0 id
    have gt := ht.keep hf id id
    have c1 : W.cell? ⟨c0, 0, none⟩ = some (.pointer (some ⟨B, 0, none⟩)) := cellOf g0 rfl
    have c2 : W.cell? ⟨B, 2, none⟩ = some (.map (some M)) := cellOf gt.1 rfl
    refine vc43 _ ⟨c0, 0, none⟩ W _ ?_
    simp only [c1, c2, addr_add, Nat.zero_add, isB_i, isK_i, isP_i, isTup_i, isInt_i, isSl_i, isPtr_i, isCs_i, isStr_i, isFn_i, isIf_i, rd_i, br_t, br_f, orO_s, orO_n, gd_t, bv_add, bv_sub, bv_mul, bv_eql, bv_neq, bv_lss, bv_leq, bv_gtr, bv_geq, bv_quo, bv_rem, bv_shl, bv_shr, bv_seq, bv_sne, bv_ptr, bv_if, bv_map, bv_nf, bv_bool, bv_sl, bv_fn, uv_not, uv_neg, eqV, nilV, nc_ptr, nc_fn, nc_if, Option.map_some, toN, Nat.mul_one, implies_true, true_and, and_true, and_self]
    refine (keys45_c M W).mono ?_
    rintro _ w6 ⟨rfl, hb6, hf6⟩
    have gt6 := gt.keep hf6 id id
    refine (sorted50_c hb6 gt6.2 hl).mono ?_
    rintro v8 w8 ⟨ss, hss, ho8, hf8⟩
    obtain ⟨p, cp, rfl, hrd⟩ := own_read ho8
    have hF8 := hf6.trans hf8
    have g8 := hF8.keep g0 id
    have gt8 := gt6.keep hf8 id id
    have hJ8 : J [] w8 := hJ _ _ _ none hJ0 (grown_none hF8) fun r e => by cases e
    have hsl : ss.length = l.length := by rw [hss]; simp [List.length_mergeSort]
    simp only [isB_i, isK_i, isP_i, isTup_i, isInt_i, isSl_i, isPtr_i, isCs_i, isStr_i, isFn_i, isIf_i, rd_i, br_t, br_f, orO_s, orO_n, gd_t, bv_add, bv_sub, bv_mul, bv_eql, bv_neq, bv_lss, bv_leq, bv_gtr, bv_geq, bv_quo, bv_rem, bv_shl, bv_shr, bv_seq, bv_sne, bv_ptr, bv_if, bv_map, bv_nf, bv_bool, bv_sl, bv_fn, uv_not, uv_neg, eqV, nilV, nc_ptr, nc_fn, nc_if, Option.map_some, toN, Nat.mul_one, implies_true, true_and, and_true, and_self]
    refine ⟨fun u w' => ∃ j : Nat, j ≤ ss.length ∧ u 12 = .int .i64 j ∧ J (LA.take j) w' ∧ w'.heap[c0]? = some (.cells #[.pointer (some ⟨B, 0, none⟩)] 56 (0, 0)) ∧ TabAt encP 93 w' B M most last l ∧ w'.ownsRow w6.heap.size 3 1 (.slice p ss.length cp) ss.length (ss.map (Value.int .i64)),
      fun u _ => ss.length - (intOf (u 12)).toNat, ⟨0, by omega, rfl, by simpa using hJ8, g8, gt8, ho8⟩, ?_⟩
    rintro u w15 ⟨j, hj, hu, hJj, g15, gt15, ho15⟩
    change u 12 = .int .i64 j at hu
    simp only [hu, isB_i, isK_i, isP_i, isTup_i, isInt_i, isSl_i, isPtr_i, isCs_i, isStr_i, isFn_i, isIf_i, rd_i, br_t, br_f, orO_s, orO_n, gd_t, bv_add, bv_sub, bv_mul, bv_eql, bv_neq, bv_lss, bv_leq, bv_gtr, bv_geq, bv_quo, bv_rem, bv_shl, bv_shr, bv_seq, bv_sne, bv_ptr, bv_if, bv_map, bv_nf, bv_bool, bv_sl, bv_fn, uv_not, uv_neg, eqV, nilV, nc_ptr, nc_fn, nc_if, Option.map_some, toN, Nat.mul_one, implies_true, true_and, and_true, and_self]
    refine br_dec (fun hlt => ?_) (fun hlt => ?_)
    · obtain ⟨p', cp', hpe, hrd⟩ := own_read ho15
      cases hpe
      have hg : ss[j]? = some (ss.getD j 0) := by rw [List.getD_eq_getElem?_getD, List.getElem?_eq_getElem (by omega)]; rfl
      obtain ⟨gb, rfl, -, -, hcj⟩ := hrd j (.int .i64 (ss.getD j 0)) (by rw [List.getElem?_map, hg]; rfl)
      have c1' : w15.cell? ⟨c0, 0, none⟩ = some (.pointer (some ⟨B, 0, none⟩)) := cellOf g15 rfl
      have c2' : w15.cell? ⟨B, 2, none⟩ = some (.map (some M)) := cellOf gt15.1 rfl
      rw [addr_add, Nat.zero_add] at hcj
      simp only [c1', c2', addr_add, Nat.zero_add, hcj, isB_i, isK_i, isP_i, isTup_i, isInt_i, isSl_i, isPtr_i, isCs_i, isStr_i, isFn_i, isIf_i, rd_i, br_t, br_f, orO_s, orO_n, gd_t, bv_add, bv_sub, bv_mul, bv_eql, bv_neq, bv_lss, bv_leq, bv_gtr, bv_geq, bv_quo, bv_rem, bv_shl, bv_shr, bv_seq, bv_sne, bv_ptr, bv_if, bv_map, bv_nf, bv_bool, bv_sl, bv_fn, uv_not, uv_neg, eqV, nilV, nc_ptr, nc_fn, nc_if, Option.map_some, toN, Nat.mul_one, implies_true, true_and, and_true, and_self]
      refine ⟨by omega, ?_⟩
      refine lookup_1 (z := ((0, 0) : Int × Int)) (by rw [row91]) (by rw [row3]) (by rw [row58]; rfl) gt15.2 ?_
      simp only [isB_i, isK_i, isP_i, isTup_i, isInt_i, isSl_i, isPtr_i, isCs_i, isStr_i, isFn_i, isIf_i, rd_i, br_t, br_f, orO_s, orO_n, gd_t, bv_add, bv_sub, bv_mul, bv_eql, bv_neq, bv_lss, bv_leq, bv_gtr, bv_geq, bv_quo, bv_rem, bv_shl, bv_shr, bv_seq, bv_sne, bv_ptr, bv_if, bv_map, bv_nf, bv_bool, bv_sl, bv_fn, uv_not, uv_neg, eqV, nilV, nc_ptr, nc_fn, nc_if, Option.map_some, toN, Nat.mul_one, implies_true, true_and, and_true, and_self, callF_yield, List.nil_append]
      have hel : (sortT (0, 0) l)[j]? = some (ss.getD j 0, (getM (ss.getD j 0) l).getD (0, 0)) := by
        unfold sortT
        rw [← hss, List.getElem?_map, hg]; rfl
      obtain ⟨x, hx⟩ : ∃ x, LA[j]? = some x := ⟨_, List.getElem?_eq_getElem (by omega)⟩
      have hfx : f x = (ss.getD j 0, (getM (ss.getD j 0) l).getD (0, 0)) := by
        rw [← hLA, List.getElem?_map, hx] at hel; exact Option.some.inj hel
      have htk : LA.take (j + 1) = LA.take j ++ [x] := by
        rw [List.take_add_one, hx]; rfl
      rw [show [Value.int .i64 (ss.getD j 0), encP ((getM (ss.getD j 0) l).getD (0, 0))] = (List.range 2).map (enc43 (f x)) by rw [hfx]; rfl]
      refine yield_of (hY _ x w15 hJj (by rw [List.length_take]; omega)) ?_
      rintro e w30 (⟨rfl, hJ1, hKp⟩ | ⟨rfl, hJx1⟩)
      · refine ⟨_, rfl, ?_⟩
        simp only [isB_i, isK_i, isP_i, isTup_i, isInt_i, isSl_i, isPtr_i, isCs_i, isStr_i, isFn_i, isIf_i, rd_i, br_t, br_f, orO_s, orO_n, gd_t, bv_add, bv_sub, bv_mul, bv_eql, bv_neq, bv_lss, bv_leq, bv_gtr, bv_geq, bv_quo, bv_rem, bv_shl, bv_shr, bv_seq, bv_sne, bv_ptr, bv_if, bv_map, bv_nf, bv_bool, bv_sl, bv_fn, uv_not, uv_neg, eqV, nilV, nc_ptr, nc_fn, nc_if, Option.map_some, toN, Nat.mul_one, implies_true, true_and, and_true, and_self, Bool.not_true]
        rw [w64 (by omega)]
        refine ⟨⟨j + 1, by omega, rfl, by rw [htk]; exact hJ1, hKp.cells hc g15, ⟨hKp.cells hB gt15.1, MapAt.walk gt15.2 hKp hM⟩, owns_keep' ho15 fun i c hi hcc => hKp.cells (fun hs => ?_) hcc⟩, ?_⟩
        · have h1 := hS i hs
          have h2 := (own_block ho15 hi).1
          have h3 := hf.size
          have h4 := hf6.size
          omega
        · show ss.length - ((j : Int) + 1).toNat < ss.length - (j : Int).toNat; omega
      · refine ⟨_, rfl, ?_⟩
        simp only [isB_i, isK_i, isP_i, isTup_i, isInt_i, isSl_i, isPtr_i, isCs_i, isStr_i, isFn_i, isIf_i, rd_i, br_t, br_f, orO_s, orO_n, gd_t, bv_add, bv_sub, bv_mul, bv_eql, bv_neq, bv_lss, bv_leq, bv_gtr, bv_geq, bv_quo, bv_rem, bv_shl, bv_shr, bv_seq, bv_sne, bv_ptr, bv_if, bv_map, bv_nf, bv_bool, bv_sl, bv_fn, uv_not, uv_neg, eqV, nilV, nc_ptr, nc_fn, nc_if, Option.map_some, toN, Nat.mul_one, implies_true, true_and, and_true, and_self, Bool.not_false]
        exact .inr ⟨_, by rw [← htk]; exact List.take_prefix _ _, hJx1⟩
    · refine .inl ⟨_, rfl, ?_⟩
      rw [show j = LA.length by omega, List.take_length] at hJj
      exact hJj
  refine callsIn_wide.2 ?_
  exact key.2.mono fun e w' ⟨v, he, h⟩ => ⟨⟨v, he⟩, h⟩
end Go.Proofs.Ytlhgibiffekpfaa
