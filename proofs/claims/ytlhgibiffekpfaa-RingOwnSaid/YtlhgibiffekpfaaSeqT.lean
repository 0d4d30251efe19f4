/- What All of a table yields.  Conditions: the table lies as it is said to lie. -/
import Derived.Test.YtlhgibiffekpfaaKeys
import Derived.Test.YtlhgibiffekpfaaTbl
namespace Go.Proofs.Ytlhgibiffekpfaa
set_option linter.unusedSimpArgs false
set_option linter.unusedVariables false
open Go Go.RowKit VC
/-- A table's things by rising ids. -/
def sortT {α : Type} (z : α) (l : List (Int × α)) : List (Int × α) := ((l.map (·.1)).mergeSort fun x y => decide (x ≤ y)).map fun k => (k, (getM k l).getD z)
theorem sortT_length {α : Type} (z : α) (l : List (Int × α)) : (sortT z l).length = l.length := by simp [sortT, List.length_mergeSort]
theorem mergeSort_sorted {l : List Int} (h : l.Pairwise fun x y => x ≤ y) : l.mergeSort (fun x y => decide (x ≤ y)) = l :=
  List.mergeSort_of_pairwise (h.imp fun h => by simpa using h)
theorem getM_self {α : Type} : ∀ {l : List (Int × α)}, (l.map (·.1)).Nodup → ∀ z, l.map (fun p => (p.1, (getM p.1 l).getD z)) = l := by
  intro l hn z
  refine List.ext_getElem? fun i => ?_
  rw [List.getElem?_map]
  cases h : l[i]? with
  | none => rfl
  | some p =>
    have := getM_at (v := p.2) hn (List.mem_of_getElem? h)
    simp [this]
/-- Rising ids: as they are. -/
theorem sortT_sorted {α : Type} {z : α} {l : List (Int × α)} (h : (l.map (·.1)).Pairwise fun x y => x < y) : sortT z l = l := by
  have hn : (l.map (·.1)).Nodup := h.imp fun h => by omega
  unfold sortT
  rw [mergeSort_sorted (h.imp fun h => by omega), List.map_map]
  exact getM_self hn z
theorem owns_keep' {w w' : World} {base : Nat} {e : TypeId} {size : Nat} {v : Value} {n : Nat} {xs : List Value} (h : w.ownsRow base e size v n xs) (k : ∀ i c, v.ownBlock = some i → w.heap[i]? = some (.cells c e (0, 0)) → w'.heap[i]? = some (.cells c e (0, 0))) : w'.ownsRow base e size v n xs := by
  refine ⟨h.1, ?_⟩
  rcases h.2 with hn | ⟨g, cap, cur, hv, hg, hgg, r⟩
  · exact .inl hn
  · exact .inr ⟨g, cap, cur, hv, hg, k g _ (by rw [hv]; rfl) hgg, r⟩
theorem MapAt.walk {α : Type} {enc : α → Value} {q : IntKind} {w w' : World} {b B : Nat} {S : Nat → Prop} {l : List (Int × α)} (h : MapAt enc q w b l) (k : KpC B S w w') (hb : ¬ S b) : MapAt enc q w' b l := by
  obtain ⟨es, clock, h1, h2⟩ := h
  exact ⟨es, clock, k.1 _ _ hb (.inr (.inr rfl)) h1, h2⟩

def enc46 (x : Int × Int) (i : Nat) : Value := match i with | 0 => .int .i64 x.1 | _ => (Value.int .i64) x.2
theorem all37_c (a : Addr) (w : World) : callV Try.prog 37 [.pointer (some a)] w fun v w' => v = .func (.func 46) #[] #[.pointer (some ⟨w.heap.size, 0, none⟩)] ∧ w'.heap[w.heap.size]? = some (.cells #[.pointer (some a)] 32 (0, 0)) ∧ w.heap.size < w'.heap.size ∧ Fm none' w w' :=
  vc37 a w _ (allocC_of fun w' hb hs hf => ⟨rfl, hb, by omega, hf⟩)
theorem seq46 {c0 B M : Nat} {most last : Int} {l : List (Int × Int)} {w : World} {S : Nat → Prop} (h0 : w.heap[c0]? = some (.cells #[.pointer (some ⟨B, 0, none⟩)] 32 (0, 0))) (ht : TabAt (Value.int .i64) 85 w B M most last l) (hl : l.length ≤ 4096)
    (hc : ¬ S c0) (hB : ¬ S B) (hM : ¬ S M) (hS : ∀ i, S i → i < w.heap.size) :
    SeqStopsK Fence.wide 0 Try.prog 46 [.pointer (some ⟨c0, 0, none⟩)].toArray (fun x : Int × Int => ((List.range 2).map (enc46 x)).toArray) (KpC w.heap.size S) (fun ys => ys = sortT 0 l) (fun ys => ys <+: sortT 0 l) l.length w := by
  intro lp J Jx W hW hJ hJx hY hJ0
  have hf := below_fm hW
  have key : callV Try.prog 46 [.func (.yield lp) #[] #[], .pointer (some ⟨c0, 0, none⟩)] W fun v W' => (∃ xs, xs = sortT 0 l ∧ J xs W') ∨ (∃ pre, pre <+: sortT 0 l ∧ Jx pre W') := by
    have g0 := hf.keep h0 id
    have gt := ht.keep hf id id
    have c1 : W.cell? ⟨c0, 0, none⟩ = some (.pointer (some ⟨B, 0, none⟩)) := cellOf g0 rfl
    have c2 : W.cell? ⟨B, 2, none⟩ = some (.map (some M)) := cellOf gt.1 rfl
    refine vc46 _ ⟨c0, 0, none⟩ W _ ?_
    simp only [c1, c2, addr_add, Nat.zero_add, isB_i, isK_i, isP_i, isTup_i, isInt_i, isSl_i, isPtr_i, isCs_i, isStr_i, isFn_i, isIf_i, rd_i, br_t, br_f, orO_s, orO_n, gd_t, bv_add, bv_sub, bv_mul, bv_eql, bv_neq, bv_lss, bv_leq, bv_gtr, bv_geq, bv_quo, bv_rem, bv_shl, bv_shr, bv_seq, bv_sne, bv_ptr, bv_if, bv_map, bv_nf, bv_bool, bv_sl, bv_fn, uv_not, uv_neg, eqV, nilV, nc_ptr, nc_fn, nc_if, Option.map_some, toN, Nat.mul_one, implies_true, true_and, and_true, and_self]
    refine (keys47_c M W).mono ?_
    rintro _ w6 ⟨rfl, hb6, hf6⟩
    have gt6 := gt.keep hf6 id id
    refine (sorted51_c hb6 gt6.2 hl).mono ?_
    rintro v8 w8 ⟨ss, hss, ho8, hf8⟩
    obtain ⟨p, cp, rfl, hrd⟩ := own_read ho8
    have hF8 := hf6.trans hf8
    have g8 := hF8.keep g0 id
    have gt8 := gt6.keep hf8 id id
    have hJ8 : J [] w8 := hJ _ _ _ none hJ0 (grown_none hF8) fun r e => by cases e
    have hsl : ss.length = l.length := by rw [hss]; simp [List.length_mergeSort]
    simp only [isB_i, isK_i, isP_i, isTup_i, isInt_i, isSl_i, isPtr_i, isCs_i, isStr_i, isFn_i, isIf_i, rd_i, br_t, br_f, orO_s, orO_n, gd_t, bv_add, bv_sub, bv_mul, bv_eql, bv_neq, bv_lss, bv_leq, bv_gtr, bv_geq, bv_quo, bv_rem, bv_shl, bv_shr, bv_seq, bv_sne, bv_ptr, bv_if, bv_map, bv_nf, bv_bool, bv_sl, bv_fn, uv_not, uv_neg, eqV, nilV, nc_ptr, nc_fn, nc_if, Option.map_some, toN, Nat.mul_one, implies_true, true_and, and_true, and_self]
    refine ⟨fun u w' => ∃ j : Nat, j ≤ ss.length ∧ u 12 = .int .i64 j ∧ J ((sortT 0 l).take j) w' ∧ w'.heap[c0]? = some (.cells #[.pointer (some ⟨B, 0, none⟩)] 32 (0, 0)) ∧ TabAt (Value.int .i64) 85 w' B M most last l ∧ w'.ownsRow w6.heap.size 3 1 (.slice p ss.length cp) ss.length (ss.map (Value.int .i64)),
      fun u _ => ss.length - (intOf (u 12)).toNat, ⟨0, by omega, rfl, by simpa using hJ8, g8, gt8, ho8⟩, ?_⟩
    rintro u w15 ⟨j, hj, hu, hJj, g15, gt15, ho15⟩
    change u 12 = .int .i64 j at hu
    simp only [hu, isB_i, isK_i, isP_i, isTup_i, isInt_i, isSl_i, isPtr_i, isCs_i, isStr_i, isFn_i, isIf_i, rd_i, br_t, br_f, orO_s, orO_n, gd_t, bv_add, bv_sub, bv_mul, bv_eql, bv_neq, bv_lss, bv_leq, bv_gtr, bv_geq, bv_quo, bv_rem, bv_shl, bv_shr, bv_seq, bv_sne, bv_ptr, bv_if, bv_map, bv_nf, bv_bool, bv_sl, bv_fn, uv_not, uv_neg, eqV, nilV, nc_ptr, nc_fn, nc_if, Option.map_some, toN, Nat.mul_one, implies_true, true_and, and_true, and_self]
    refine br_dec (fun hlt => ?_) (fun hlt => ?_)
    · obtain ⟨p', cp', hpe, hrd⟩ := own_read ho15
      cases hpe
      have hg : ss[j]? = some (ss.getD j 0) := by rw [List.getD_eq_getElem?_getD, List.getElem?_eq_getElem (by omega)]; rfl
      obtain ⟨gb, rfl, -, -, hcj⟩ := hrd j (.int .i64 (ss.getD j 0)) (by rw [List.getElem?_map, hg]; rfl)
      have c1' : w15.cell? ⟨c0, 0, none⟩ = some (.pointer (some ⟨B, 0, none⟩)) := cellOf g15 rfl
      have c2' : w15.cell? ⟨B, 2, none⟩ = some (.map (some M)) := cellOf gt15.1 rfl
      rw [addr_add, Nat.zero_add] at hcj
      simp only [c1', c2', addr_add, Nat.zero_add, hcj, isB_i, isK_i, isP_i, isTup_i, isInt_i, isSl_i, isPtr_i, isCs_i, isStr_i, isFn_i, isIf_i, rd_i, br_t, br_f, orO_s, orO_n, gd_t, bv_add, bv_sub, bv_mul, bv_eql, bv_neq, bv_lss, bv_leq, bv_gtr, bv_geq, bv_quo, bv_rem, bv_shl, bv_shr, bv_seq, bv_sne, bv_ptr, bv_if, bv_map, bv_nf, bv_bool, bv_sl, bv_fn, uv_not, uv_neg, eqV, nilV, nc_ptr, nc_fn, nc_if, Option.map_some, toN, Nat.mul_one, implies_true, true_and, and_true, and_self]
      refine ⟨by omega, ?_⟩
      refine lookup_1 (z := 0) (by rw [row83]) (by rw [row3]) (by rw [row3]) gt15.2 ?_
      simp only [isB_i, isK_i, isP_i, isTup_i, isInt_i, isSl_i, isPtr_i, isCs_i, isStr_i, isFn_i, isIf_i, rd_i, br_t, br_f, orO_s, orO_n, gd_t, bv_add, bv_sub, bv_mul, bv_eql, bv_neq, bv_lss, bv_leq, bv_gtr, bv_geq, bv_quo, bv_rem, bv_shl, bv_shr, bv_seq, bv_sne, bv_ptr, bv_if, bv_map, bv_nf, bv_bool, bv_sl, bv_fn, uv_not, uv_neg, eqV, nilV, nc_ptr, nc_fn, nc_if, Option.map_some, toN, Nat.mul_one, implies_true, true_and, and_true, and_self, callF_yield, List.nil_append]
      have hel : (sortT 0 l)[j]? = some (ss.getD j 0, (getM (ss.getD j 0) l).getD 0) := by
        unfold sortT
        rw [← hss, List.getElem?_map, hg]; rfl
      have htk : (sortT 0 l).take (j + 1) = (sortT 0 l).take j ++ [(ss.getD j 0, (getM (ss.getD j 0) l).getD 0)] := by
        rw [List.take_add_one, hel]; rfl
      have htl := sortT_length 0 l
      refine yield_of (hY _ (ss.getD j 0, (getM (ss.getD j 0) l).getD 0) w15 hJj (by rw [List.length_take]; omega)) ?_
      rintro e w30 (⟨rfl, hJ1, hKp⟩ | ⟨rfl, hJx1⟩)
      · refine ⟨_, rfl, ?_⟩
        simp only [isB_i, isK_i, isP_i, isTup_i, isInt_i, isSl_i, isPtr_i, isCs_i, isStr_i, isFn_i, isIf_i, rd_i, br_t, br_f, orO_s, orO_n, gd_t, bv_add, bv_sub, bv_mul, bv_eql, bv_neq, bv_lss, bv_leq, bv_gtr, bv_geq, bv_quo, bv_rem, bv_shl, bv_shr, bv_seq, bv_sne, bv_ptr, bv_if, bv_map, bv_nf, bv_bool, bv_sl, bv_fn, uv_not, uv_neg, eqV, nilV, nc_ptr, nc_fn, nc_if, Option.map_some, toN, Nat.mul_one, implies_true, true_and, and_true, and_self, Bool.not_true]
        rw [w64 (by omega)]
        refine ⟨⟨j + 1, by omega, rfl, by rw [htk]; exact hJ1, hKp.cells hc g15, ⟨hKp.cells hB gt15.1, MapAt.walk gt15.2 hKp hM⟩, owns_keep' ho15 fun i c hi hcc => hKp.cells (fun hs => ?_) hcc⟩, ?_⟩
        · have h1 := hS i hs
          have h2 := (own_block ho15 hi).1
          have h3 := hf.size
          have h4 := hf6.size
          omega
        · show ss.length - ((j : Int) + 1).toNat < ss.length - (j : Int).toNat; omega
      · refine ⟨_, rfl, ?_⟩
        simp only [isB_i, isK_i, isP_i, isTup_i, isInt_i, isSl_i, isPtr_i, isCs_i, isStr_i, isFn_i, isIf_i, rd_i, br_t, br_f, orO_s, orO_n, gd_t, bv_add, bv_sub, bv_mul, bv_eql, bv_neq, bv_lss, bv_leq, bv_gtr, bv_geq, bv_quo, bv_rem, bv_shl, bv_shr, bv_seq, bv_sne, bv_ptr, bv_if, bv_map, bv_nf, bv_bool, bv_sl, bv_fn, uv_not, uv_neg, eqV, nilV, nc_ptr, nc_fn, nc_if, Option.map_some, toN, Nat.mul_one, implies_true, true_and, and_true, and_self, Bool.not_false]
        exact .inr ⟨_, by rw [← htk]; exact List.take_prefix _ _, hJx1⟩
    · refine .inl ⟨_, rfl, ?_⟩
      have htl := sortT_length 0 l
      rw [show j = (sortT 0 l).length by omega, List.take_length] at hJj
      exact hJj
  refine callsIn_wide.2 ?_
  exact key.2.mono fun e w' ⟨v, he, h⟩ => ⟨⟨v, he⟩, h⟩
end Go.Proofs.Ytlhgibiffekpfaa
