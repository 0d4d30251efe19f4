/- The keys of a table's map, in order: maps.Keys, slices.Sorted.  Conditions: the map lies as it is said to lie. -/
import Derived.Test.YtlhgibiffekpfaaIter
import Derived.Test.YtlhgibiffekpfaaLib2
import Derived.Test.YtlhgibiffekpfaaLay
import Derived.Test.YtlhgibiffekpfaaC5
namespace Go.Proofs.Ytlhgibiffekpfaa
set_option linter.unusedSimpArgs false
set_option linter.unusedVariables false
open Go Go.RowKit VC
theorem iterKeepW {α : Type} {enc : α → Value} {q : IntKind} {w w' : World} {b r : Nat} {l : List (Int × α)} {todo : List Int} (h : IterAt enc q w b r l todo) (k : KeepsWalks w w') : IterAt enc q w' b r l todo := by
  obtain ⟨es, clock, since, seen, c0, h1, h2, h3, h4, h5⟩ := h
  exact ⟨es, clock, since, seen, c0, k.same _ _ h1 rfl, h2, h3, k.same _ _ h4 rfl, h5⟩
theorem grown_none {w w' : World} (h : Fm none' w w') : w.grownBy w' none := ⟨h.os, h.tape, h.output, h.size, fun k hk _ => h.blk k hk id⟩
theorem grown_one {w w' : World} {r : Nat} (h : Fm (fun i => i = r) w w') : w.grownBy w' (some r) := ⟨h.os, h.tape, h.output, h.size, fun k hk e => h.blk k hk fun h => e (by rw [h])⟩
theorem filter_out {k : Int} : ∀ {l : List Int}, l.Nodup → k ∈ l → (k :: l.filter fun x => decide (x ≠ k)).Perm l := by
  intro l
  induction l with
  | nil => intro _ h; cases h
  | cons x l ih =>
    intro hn hm
    obtain ⟨h1, h2⟩ := List.nodup_cons.1 hn
    by_cases hx : x = k
    · subst hx
      rw [List.filter_cons_of_neg (by simp), List.filter_eq_self.2 fun y hy => by simp; rintro rfl; exact h1 hy]
    · rw [List.filter_cons_of_pos (by simpa using hx)]
      refine (List.Perm.swap x k _).trans ((ih h2 ?_).cons x)
      rcases List.mem_cons.1 hm with e | e
      · exact absurd e.symm hx
      · exact e
theorem sortsI (m : Nat) : AnyZI.SortsIn Try.prog sortedI_ren Fence.wide m :=
  ⟨fun blk off cap ss W hH hblk hsz => callsIn_wide.2 (AnyM.slices_Sort_int sortI blk off cap ss W hH hblk hsz),
   fun p cap W => callsIn_wide.2 (AnyM.slices_Sort_int_none sortI p cap W)⟩

theorem gives51 {c0 b n : Nat} {l : List (Int × Int)} {w : World} (h0 : w.heap[c0]? = some (.cells #[.map (some b)] 83 (0, 0))) (hm : MapAt (Value.int .i64) .i64 w b l) :
    SeqGives Fence.wide n Try.prog 51 #[.pointer (some ⟨c0, 0, none⟩)] encZ (fun ss => ss.Perm (l.map (·.1))) l.length w := by
  intro lp J W hW hJ hY hJ0
  have hf := below_fm hW
  have g0 : W.cell? ⟨c0, 0, none⟩ = some (.map (some b)) := cellOf (hf.keep h0 id) rfl
  have gm := hm.keep hf id
  have key : callV Try.prog 51 [.func (.yield lp) #[] #[], .pointer (some ⟨c0, 0, none⟩)] W fun v W' => ∃ xs, xs.Perm (l.map (·.1)) ∧ J xs W' := by
    refine vc51 _ ⟨c0, 0, none⟩ W _ ?_
    simp only [g0, isB_i, isK_i, isP_i, isTup_i, isInt_i, isSl_i, isPtr_i, isCs_i, isStr_i, isFn_i, isIf_i, rd_i, br_t, br_f, orO_s, orO_n, gd_t, bv_add, bv_sub, bv_mul, bv_eql, bv_neq, bv_lss, bv_leq, bv_gtr, bv_geq, bv_quo, bv_rem, bv_shl, bv_shr, bv_seq, bv_sne, bv_ptr, bv_if, bv_map, bv_nf, bv_bool, bv_sl, bv_fn, uv_not, uv_neg, eqV, nilV, nc_ptr, nc_fn, nc_if, Option.map_some, toN, Nat.mul_one, implies_true, true_and, and_true, and_self]
    refine range_ok (by rw [row83]) gm fun w2 hit hs2 hf2 => ?_
    obtain ⟨r, hr⟩ : ∃ r, r = W.heap.size := ⟨_, rfl⟩
    rw [← hr] at hit ⊢
    refine ⟨fun _ w' => ∃ todo pre, IterAt (Value.int .i64) .i64 w' b r l todo ∧ J pre w' ∧ (pre ++ todo).Perm (l.map (·.1)), fun _ w' => w'.rangeLeft b r, ⟨_, [], hit, hJ _ _ _ none hJ0 (grown_none hf2) (fun r e => by cases e), by simp⟩, ?_⟩
    rintro u w6 ⟨todo, pre, hi6, hJ6, hp6⟩
    refine next_ok hi6 (fun ht => ?_) fun k v w9 hk hkv hi9 hlt hf9 hen => ?_
    · subst ht
      simp only [isB_i, isK_i, isP_i, isTup_i, isInt_i, isSl_i, isPtr_i, isCs_i, isStr_i, isFn_i, isIf_i, rd_i, br_t, br_f, orO_s, orO_n, gd_t, bv_add, bv_sub, bv_mul, bv_eql, bv_neq, bv_lss, bv_leq, bv_gtr, bv_geq, bv_quo, bv_rem, bv_shl, bv_shr, bv_seq, bv_sne, bv_ptr, bv_if, bv_map, bv_nf, bv_bool, bv_sl, bv_fn, uv_not, uv_neg, eqV, nilV, nc_ptr, nc_fn, nc_if, Option.map_some, toN, Nat.mul_one, implies_true, true_and, and_true, and_self, List.getElem?_cons_zero]
      exact ⟨pre, by simpa using hp6, hJ6⟩
    · simp only [isB_i, isK_i, isP_i, isTup_i, isInt_i, isSl_i, isPtr_i, isCs_i, isStr_i, isFn_i, isIf_i, rd_i, br_t, br_f, orO_s, orO_n, gd_t, bv_add, bv_sub, bv_mul, bv_eql, bv_neq, bv_lss, bv_leq, bv_gtr, bv_geq, bv_quo, bv_rem, bv_shl, bv_shr, bv_seq, bv_sne, bv_ptr, bv_if, bv_map, bv_nf, bv_bool, bv_sl, bv_fn, uv_not, uv_neg, eqV, nilV, nc_ptr, nc_fn, nc_if, Option.map_some, toN, Nat.mul_one, implies_true, true_and, and_true, and_self, List.getElem?_cons_zero]
      refine hen _ ?_
      simp only [isB_i, isK_i, isP_i, isTup_i, isInt_i, isSl_i, isPtr_i, isCs_i, isStr_i, isFn_i, isIf_i, rd_i, br_t, br_f, orO_s, orO_n, gd_t, bv_add, bv_sub, bv_mul, bv_eql, bv_neq, bv_lss, bv_leq, bv_gtr, bv_geq, bv_quo, bv_rem, bv_shl, bv_shr, bv_seq, bv_sne, bv_ptr, bv_if, bv_map, bv_nf, bv_bool, bv_sl, bv_fn, uv_not, uv_neg, eqV, nilV, nc_ptr, nc_fn, nc_if, Option.map_some, toN, Nat.mul_one, implies_true, true_and, and_true, and_self, List.getElem?_cons_zero, callF_yield, List.nil_append]
      have hnd : todo.Nodup := ((hp6.nodup_iff.2 gm.nodup).sublist (List.sublist_append_right pre todo))
      have hJ9 : J pre w9 := hJ _ _ _ (some r) hJ6 (grown_one hf9) fun r' e => by
        cases e
        obtain ⟨es, clock, since, seen, cc, h1, h2, h3, h4, h5⟩ := hi6
        exact ⟨by omega, _, h4, rfl⟩
      have hlen : pre.length < l.length := by
        have h1 := hp6.length_eq
        have h2 := List.length_pos_of_mem hk
        simp at h1; omega
      refine yield_of (hY pre k w9 hJ9 hlen) ?_
      rintro e w22 ⟨rfl, hJ22, hkw⟩
      refine ⟨_, rfl, ?_⟩
      simp only [isB_i, isK_i, isP_i, isTup_i, isInt_i, isSl_i, isPtr_i, isCs_i, isStr_i, isFn_i, isIf_i, rd_i, br_t, br_f, orO_s, orO_n, gd_t, bv_add, bv_sub, bv_mul, bv_eql, bv_neq, bv_lss, bv_leq, bv_gtr, bv_geq, bv_quo, bv_rem, bv_shl, bv_shr, bv_seq, bv_sne, bv_ptr, bv_if, bv_map, bv_nf, bv_bool, bv_sl, bv_fn, uv_not, uv_neg, eqV, nilV, nc_ptr, nc_fn, nc_if, Option.map_some, toN, Nat.mul_one, implies_true, true_and, and_true, and_self, Bool.not_true]
      have hi22 := iterKeepW hi9 hkw
      refine ⟨⟨_, _, hi22, hJ22, ?_⟩, ?_⟩
      · refine List.Perm.trans ?_ hp6
        rw [List.append_assoc]
        exact (filter_out hnd hk).append_left pre
      · show w22.rangeLeft b r < w6.rangeLeft b r
        rw [hi22.left, ← hi9.left]; exact hlt
  refine callsIn_wide.2 ?_
  exact key.2.mono fun e w' ⟨v, he, h⟩ => ⟨⟨v, he⟩, h⟩
theorem keys47_c (b : Nat) (w : World) : callV Try.prog 47 [.map (some b)] w fun v w' => v = .func (.func 51) #[] #[.pointer (some ⟨w.heap.size, 0, none⟩)] ∧ w'.heap[w.heap.size]? = some (.cells #[.map (some b)] 83 (0, 0)) ∧ Fm none' w w' :=
  vc47 (some b) w _ (allocC_of fun w' hb hs hf => ⟨rfl, hb, hf⟩)
set_option maxRecDepth 100000 in
theorem sorted51_c {c0 b : Nat} {l : List (Int × Int)} {w : World} (h0 : w.heap[c0]? = some (.cells #[.map (some b)] 83 (0, 0))) (hm : MapAt (Value.int .i64) .i64 w b l) (hl : l.length ≤ 4096) :
    callV Try.prog 44 [.func (.func 51) #[] #[.pointer (some ⟨c0, 0, none⟩)]] w fun v w' => ∃ ss : List Int, ss = (l.map (·.1)).mergeSort (fun x y => decide (x ≤ y)) ∧ w'.ownsRow w.heap.size 3 1 v ss.length (ss.map (Value.int .i64)) ∧ Fm none' w w' := by
  refine ⟨ent44, ?_⟩
  have cS := AnyZI.sorted_in sortedI Fence.wide 5 trivial trivial trivial trivial rfl (by omega) (sortsI _) (enters_of Try.func49 (by kernel_rfl) rfl) 51 #[.pointer (some ⟨c0, 0, none⟩)] trivial (enters_of Try.func51 (by kernel_rfl) rfl) _ l.length (by unfold maxLen; omega) (by omega) w (gives51 h0 hm)
  refine (callsIn_wide (n := 5)).1 (cS.mono ?_)
  rintro e w' ⟨v, ss, rfl, hS, hrow, -, hb⟩
  refine ⟨v, rfl, ss.mergeSort fun x y => decide (x ≤ y), mergeSort_of_perm_i hS, ?_, below_fm hb⟩
  rw [List.length_mergeSort]
  exact hrow

/-- Two numbers. -/
def encP (p : Int × Int) : Value := .agg #[.int .i64 p.1, .int .i64 p.2]
theorem gives50 {c0 b n : Nat} {l : List (Int × (Int × Int))} {w : World} (h0 : w.heap[c0]? = some (.cells #[.map (some b)] 91 (0, 0))) (hm : MapAt encP .i64 w b l) :
    SeqGives Fence.wide n Try.prog 50 #[.pointer (some ⟨c0, 0, none⟩)] encZ (fun ss => ss.Perm (l.map (·.1))) l.length w := by
  intro lp J W hW hJ hY hJ0
  have hf := below_fm hW
  have g0 : W.cell? ⟨c0, 0, none⟩ = some (.map (some b)) := cellOf (hf.keep h0 id) rfl
  have gm := hm.keep hf id
  have key : callV Try.prog 50 [.func (.yield lp) #[] #[], .pointer (some ⟨c0, 0, none⟩)] W fun v W' => ∃ xs, xs.Perm (l.map (·.1)) ∧ J xs W' := by
    refine vc50 _ ⟨c0, 0, none⟩ W _ ?_
    simp only [g0, isB_i, isK_i, isP_i, isTup_i, isInt_i, isSl_i, isPtr_i, isCs_i, isStr_i, isFn_i, isIf_i, rd_i, br_t, br_f, orO_s, orO_n, gd_t, bv_add, bv_sub, bv_mul, bv_eql, bv_neq, bv_lss, bv_leq, bv_gtr, bv_geq, bv_quo, bv_rem, bv_shl, bv_shr, bv_seq, bv_sne, bv_ptr, bv_if, bv_map, bv_nf, bv_bool, bv_sl, bv_fn, uv_not, uv_neg, eqV, nilV, nc_ptr, nc_fn, nc_if, Option.map_some, toN, Nat.mul_one, implies_true, true_and, and_true, and_self]
    refine range_ok (by rw [row91]) gm fun w2 hit hs2 hf2 => ?_
    obtain ⟨r, hr⟩ : ∃ r, r = W.heap.size := ⟨_, rfl⟩
    rw [← hr] at hit ⊢
    refine ⟨fun _ w' => ∃ todo pre, IterAt encP .i64 w' b r l todo ∧ J pre w' ∧ (pre ++ todo).Perm (l.map (·.1)), fun _ w' => w'.rangeLeft b r, ⟨_, [], hit, hJ _ _ _ none hJ0 (grown_none hf2) (fun r e => by cases e), by simp⟩, ?_⟩
    rintro u w6 ⟨todo, pre, hi6, hJ6, hp6⟩
    refine next_ok hi6 (fun ht => ?_) fun k v w9 hk hkv hi9 hlt hf9 hen => ?_
    · subst ht
      simp only [isB_i, isK_i, isP_i, isTup_i, isInt_i, isSl_i, isPtr_i, isCs_i, isStr_i, isFn_i, isIf_i, rd_i, br_t, br_f, orO_s, orO_n, gd_t, bv_add, bv_sub, bv_mul, bv_eql, bv_neq, bv_lss, bv_leq, bv_gtr, bv_geq, bv_quo, bv_rem, bv_shl, bv_shr, bv_seq, bv_sne, bv_ptr, bv_if, bv_map, bv_nf, bv_bool, bv_sl, bv_fn, uv_not, uv_neg, eqV, nilV, nc_ptr, nc_fn, nc_if, Option.map_some, toN, Nat.mul_one, implies_true, true_and, and_true, and_self, List.getElem?_cons_zero]
      exact ⟨pre, by simpa using hp6, hJ6⟩
    · simp only [isB_i, isK_i, isP_i, isTup_i, isInt_i, isSl_i, isPtr_i, isCs_i, isStr_i, isFn_i, isIf_i, rd_i, br_t, br_f, orO_s, orO_n, gd_t, bv_add, bv_sub, bv_mul, bv_eql, bv_neq, bv_lss, bv_leq, bv_gtr, bv_geq, bv_quo, bv_rem, bv_shl, bv_shr, bv_seq, bv_sne, bv_ptr, bv_if, bv_map, bv_nf, bv_bool, bv_sl, bv_fn, uv_not, uv_neg, eqV, nilV, nc_ptr, nc_fn, nc_if, Option.map_some, toN, Nat.mul_one, implies_true, true_and, and_true, and_self, List.getElem?_cons_zero]
      refine hen _ ?_
      simp only [isB_i, isK_i, isP_i, isTup_i, isInt_i, isSl_i, isPtr_i, isCs_i, isStr_i, isFn_i, isIf_i, rd_i, br_t, br_f, orO_s, orO_n, gd_t, bv_add, bv_sub, bv_mul, bv_eql, bv_neq, bv_lss, bv_leq, bv_gtr, bv_geq, bv_quo, bv_rem, bv_shl, bv_shr, bv_seq, bv_sne, bv_ptr, bv_if, bv_map, bv_nf, bv_bool, bv_sl, bv_fn, uv_not, uv_neg, eqV, nilV, nc_ptr, nc_fn, nc_if, Option.map_some, toN, Nat.mul_one, implies_true, true_and, and_true, and_self, List.getElem?_cons_zero, callF_yield, List.nil_append]
      have hnd : todo.Nodup := ((hp6.nodup_iff.2 gm.nodup).sublist (List.sublist_append_right pre todo))
      have hJ9 : J pre w9 := hJ _ _ _ (some r) hJ6 (grown_one hf9) fun r' e => by
        cases e
        obtain ⟨es, clock, since, seen, cc, h1, h2, h3, h4, h5⟩ := hi6
        exact ⟨by omega, _, h4, rfl⟩
      have hlen : pre.length < l.length := by
        have h1 := hp6.length_eq
        have h2 := List.length_pos_of_mem hk
        simp at h1; omega
      refine yield_of (hY pre k w9 hJ9 hlen) ?_
      rintro e w22 ⟨rfl, hJ22, hkw⟩
      refine ⟨_, rfl, ?_⟩
      simp only [isB_i, isK_i, isP_i, isTup_i, isInt_i, isSl_i, isPtr_i, isCs_i, isStr_i, isFn_i, isIf_i, rd_i, br_t, br_f, orO_s, orO_n, gd_t, bv_add, bv_sub, bv_mul, bv_eql, bv_neq, bv_lss, bv_leq, bv_gtr, bv_geq, bv_quo, bv_rem, bv_shl, bv_shr, bv_seq, bv_sne, bv_ptr, bv_if, bv_map, bv_nf, bv_bool, bv_sl, bv_fn, uv_not, uv_neg, eqV, nilV, nc_ptr, nc_fn, nc_if, Option.map_some, toN, Nat.mul_one, implies_true, true_and, and_true, and_self, Bool.not_true]
      have hi22 := iterKeepW hi9 hkw
      refine ⟨⟨_, _, hi22, hJ22, ?_⟩, ?_⟩
      · refine List.Perm.trans ?_ hp6
        rw [List.append_assoc]
        exact (filter_out hnd hk).append_left pre
      · show w22.rangeLeft b r < w6.rangeLeft b r
        rw [hi22.left, ← hi9.left]; exact hlt
  refine callsIn_wide.2 ?_
  exact key.2.mono fun e w' ⟨v, he, h⟩ => ⟨⟨v, he⟩, h⟩
theorem keys45_c (b : Nat) (w : World) : callV Try.prog 45 [.map (some b)] w fun v w' => v = .func (.func 50) #[] #[.pointer (some ⟨w.heap.size, 0, none⟩)] ∧ w'.heap[w.heap.size]? = some (.cells #[.map (some b)] 91 (0, 0)) ∧ Fm none' w w' :=
  vc45 (some b) w _ (allocC_of fun w' hb hs hf => ⟨rfl, hb, hf⟩)
set_option maxRecDepth 100000 in
theorem sorted50_c {c0 b : Nat} {l : List (Int × (Int × Int))} {w : World} (h0 : w.heap[c0]? = some (.cells #[.map (some b)] 91 (0, 0))) (hm : MapAt encP .i64 w b l) (hl : l.length ≤ 4096) :
    callV Try.prog 44 [.func (.func 50) #[] #[.pointer (some ⟨c0, 0, none⟩)]] w fun v w' => ∃ ss : List Int, ss = (l.map (·.1)).mergeSort (fun x y => decide (x ≤ y)) ∧ w'.ownsRow w.heap.size 3 1 v ss.length (ss.map (Value.int .i64)) ∧ Fm none' w w' := by
  refine ⟨ent44, ?_⟩
  have cS := AnyZI.sorted_in sortedI Fence.wide 5 trivial trivial trivial trivial rfl (by omega) (sortsI _) (enters_of Try.func49 (by kernel_rfl) rfl) 50 #[.pointer (some ⟨c0, 0, none⟩)] trivial (enters_of Try.func50 (by kernel_rfl) rfl) _ l.length (by unfold maxLen; omega) (by omega) w (gives50 h0 hm)
  refine (callsIn_wide (n := 5)).1 (cS.mono ?_)
  rintro e w' ⟨v, ss, rfl, hS, hrow, -, hb⟩
  refine ⟨v, rfl, ss.mergeSort fun x y => decide (x ≤ y), mergeSort_of_perm_i hS, ?_, below_fm hb⟩
  rw [List.length_mergeSort]
  exact hrow
end Go.Proofs.Ytlhgibiffekpfaa
