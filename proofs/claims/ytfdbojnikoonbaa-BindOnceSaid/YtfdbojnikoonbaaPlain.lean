/- bind: what the steps of the plain state do.  Conditions: none. -/
import Derived.Test.YtfdbojnikoonbaaPut
namespace Go.Proofs.Ytfdbojnikoonbaa
set_option linter.unusedSimpArgs false
set_option linter.unusedVariables false
open Go Go.RowKit VC
/-- What becomes of a client that is given a number. -/
def newC (c : Cl) (p nid : Int) : Cl :=
  if newer p c.newest then ⟨p, left (fun q => !reach p q) [] (setM p nid c.ids)⟩ else ⟨c.newest, setM p nid c.ids⟩
theorem putS_get (s : St) (who p nid j : Int) : getM j (putS s who p nid).cs = if j = who then some (newC (oldC s who p) p nid) else getM j s.cs := by
  unfold putS newC
  split
  · simp only [dropS, setM_setM, getM_setM]
  · simp only [getM_setM]
theorem putS_used (s : St) (who p nid : Int) {k : Int} (h : k ∈ (putS s who p nid).used.map (·.1)) : k = nid ∨ k ∈ s.used.map (·.1) := by
  have h1 : k ∈ (usedS s nid).map (·.1) := by
    unfold putS at h
    split at h
    · simp only [dropS, idsLeft] at h
      exact (List.filter_sublist.map _).subset h
    · exact h
  unfold usedS at h1
  split at h1
  · obtain ⟨q, hq, rfl⟩ := List.mem_map.1 h1
    rcases mem_setM hq with rfl | h2
    · exact .inl rfl
    · exact .inr (List.mem_map_of_mem h2.1)
  · exact .inr h1
theorem dist_self (a : Int) : dist a a = 0 := by
  unfold dist
  rw [Int.sub_self]
  decide
theorem newer_self (a : Int) : newer a a = false := by unfold newer; rw [dist_self]; decide
theorem reach_self (a : Int) : reach a a = true := by unfold reach; rw [dist_self]; simp
theorem getM_filter {α : Type} {f : Int → Bool} {k : Int} : ∀ {l : List (Int × α)}, getM k (l.filter fun p => f p.1) = if f k then getM k l else none := by
  intro l
  induction l with
  | nil => simp [getM]
  | cons p l ih =>
    by_cases hp : f p.1 = true
    · rw [List.filter_cons_of_pos (p := fun p : Int × α => f p.1) hp]
      simp only [getM]
      by_cases hk : k = p.1
      · subst hk; simp [hp]
      · rw [if_neg hk, if_neg hk, ih]
    · rw [List.filter_cons_of_neg (p := fun p : Int × α => f p.1) hp, ih]
      simp only [getM]
      by_cases hk : k = p.1
      · subst hk; simp [hp]
      · rw [if_neg hk]
theorem left_eq (g : Int → Bool) (l : List (Int × Int)) : left g [] l = l.filter fun p => !g p.1 := by
  unfold left
  refine List.filter_congr fun p _ => by simp
theorem newC_get (c : Cl) (p nid q : Int) : getM q (newC c p nid).ids = if newer p c.newest = true ∧ reach p q = false then none else if q = p then some nid else getM q c.ids := by
  unfold newC
  by_cases hn : newer p c.newest = true
  · rw [if_pos hn]
    show getM q (left (fun q => !reach p q) [] (setM p nid c.ids)) = _
    rw [left_eq, getM_filter (f := fun q => !!reach p q)]
    simp only [Bool.not_not, getM_setM]
    cases hr : reach p q with
    | true => rw [if_pos rfl, if_neg (c := newer p c.newest = true ∧ true = false) (by simp)]
    | false => rw [if_neg (by simp), if_pos ⟨hn, rfl⟩]
  · rw [if_neg hn, if_neg (by simp [hn])]
    exact getM_setM
theorem askS_get (s s' : St) (who p : Int) (h : getM who s.cs = getM who s'.cs) : askS s who p = askS s' who p := by unfold askS; rw [h]
/-- Whoever was given a number has it. -/
theorem ask_put (s : St) (who p nid : Int) : askS (putS s who p nid) who p = (nid, 0) := by
  unfold askS
  rw [putS_get, if_pos rfl]
  simp only [newC_get]
  rw [if_neg (by simp [reach_self])]
  simp
theorem left_len {g : Int → Bool} {l : List (Int × Int)} : (left g [] l).length ≤ l.length := List.length_filter_le _ _
theorem setM_len {α : Type} {k : Int} {v : α} : ∀ {l : List (Int × α)}, (setM k v l).length = if (getM k l).isSome then l.length else l.length + 1 := by
  intro l
  induction l with
  | nil => rfl
  | cons p l ih =>
    simp only [setM, getM]
    split
    · simp
    · simp only [List.length_cons, ih]; split <;> rfl
theorem newC_len (c : Cl) (p nid : Int) : (newC c p nid).ids.length ≤ c.ids.length + 1 := by
  unfold newC
  have : (setM p nid c.ids).length ≤ c.ids.length + 1 := by rw [setM_len]; split <;> omega
  split
  · exact Nat.le_trans (left_len (g := fun q => !reach p q) (l := setM p nid c.ids)) this
  · exact this
theorem sum_setM {who : Int} {c' : Cl} : ∀ {cs : List (Int × Cl)}, ((setM who c' cs).map fun p => p.2.ids.length).sum + (match getM who cs with | some c => c.ids.length | none => 0) = (cs.map fun p => p.2.ids.length).sum + c'.ids.length := by
  intro cs
  induction cs with
  | nil => simp [setM, getM]
  | cons p cs ih =>
    simp only [setM, getM]
    split
    · simp only [List.map_cons, List.sum_cons]; omega
    · simp only [List.map_cons, List.sum_cons]; omega
theorem putS_cs (s : St) (who p nid : Int) : (putS s who p nid).cs = setM who (newC (oldC s who p) p nid) s.cs := by
  unfold putS newC
  split
  · simp only [dropS, setM_setM]
  · rfl
theorem lenS_put (s : St) (who p nid : Int) : lenS (putS s who p nid) ≤ lenS s + 1 := by
  unfold lenS
  rw [putS_cs]
  have h1 := sum_setM (who := who) (c' := newC (oldC s who p) p nid) (cs := s.cs)
  have h2 := newC_len (oldC s who p) p nid
  unfold oldC at h1 h2
  cases hc : getM who s.cs with
  | none => rw [hc] at h1 h2; simp only [Option.getD_none, List.length_nil] at h1 h2; unfold oldC; rw [hc]; simp only [Option.getD_none]; omega
  | some c => rw [hc] at h1 h2; simp only [Option.getD_some] at h1 h2; unfold oldC; rw [hc]; simp only [Option.getD_some]; omega
theorem fresh_of {s : St} {nid : Int} (h : ∀ k ∈ s.used.map (·.1), k ≠ nid) : (getM nid s.used).getD false = false := by
  rw [getM_mem.2 fun h' => h nid h' rfl]; rfl

/-! ### A table that lies beyond N -/
variable {w w' : World} {N T : Nat} {s s' : St}
theorem Stp.one {r v : Value} (h : Stp (fun i => N ≤ i) w T r s' v w') (hN : N ≤ w.heap.size) : v = r ∧ TabAt w' (fun i => N ≤ i) T s' ∧ Fm (fun i => N ≤ i) w w' :=
  ⟨h.1, h.2.1.mono fun i x => x.elim id fun y => by omega, h.2.2⟩
theorem new_one (w : World) (hN : N ≤ w.heap.size) : callV Try.prog 8 [] w fun v w' => ∃ T, v = .pointer (some ⟨T, 0, none⟩) ∧ TabAt w' (fun i => N ≤ i) T ⟨[], []⟩ ∧ Fm none' w w' :=
  (new8_c w).mono fun v w' ⟨T, h1, h2, h3⟩ => ⟨T, h1, h2.mono fun i x => by omega, h3⟩
theorem bind_one (who prov nid : Int) (h : TabAt w (fun i => N ≤ i) T s) (hN : N ≤ w.heap.size) : callV Try.prog 9 [.pointer (some ⟨T, 0, none⟩), .int .i64 who, .int .u16 prov, .int .i64 nid] w fun v w' =>
    v = .int .i64 (bindS s who prov nid).1 ∧ TabAt w' (fun i => N ≤ i) T (bindS s who prov nid).2 ∧ Fm (fun i => N ≤ i) w w' := (bind9_c who prov nid h).mono fun _ _ x => x.one hN
theorem deny_one (who prov : Int) (h : TabAt w (fun i => N ≤ i) T s) (hN : N ≤ w.heap.size) : callV Try.prog 12 [.pointer (some ⟨T, 0, none⟩), .int .i64 who, .int .u16 prov] w fun v w' =>
    v = .int .i64 (denyS s who prov).1 ∧ TabAt w' (fun i => N ≤ i) T (denyS s who prov).2 ∧ Fm (fun i => N ≤ i) w w' := (deny12_c who prov h).mono fun _ _ x => x.one hN
theorem len_one (h : TabAt w (fun i => N ≤ i) T s) (hs : lenS s < 4611686018427387904) : callV Try.prog 10 [.pointer (some ⟨T, 0, none⟩)] w fun v w' => v = .int .i64 (lenS s) ∧ TabAt w' (fun i => N ≤ i) T s ∧ Fm (fun i => N ≤ i) w w' :=
  (len10_c h hs).mono fun _ _ ⟨h1, h2⟩ => ⟨h1, h.keep h2 fun _ x => x.elim, h2.none⟩
theorem Fm.far {W : World} (h : Fm none' W w) (k : Fm (fun i => N ≤ i) w w') (hN : W.heap.size ≤ N) : Fm none' W w' := h.trans' k fun i hi hx => by omega

theorem shown_c (w : World) : callV Try.prog 7 [] w fun v w' => v = .bool true ∧ Fm none' w w' := by
  refine vc7 w _ ?_
  refine (new_one (N := w.heap.size) w (Nat.le_refl _)).mono ?_
  rintro _ w1 ⟨T, rfl, h1, hf1⟩
  have z1 := hf1.size
  simp only [isB_i, isK_i, isP_i, isTup_i, isInt_i, isSl_i, isPtr_i, isCs_i, isStr_i, isFn_i, isIf_i, rd_i, br_t, br_f, orO_s, orO_n, gd_t, bv_add, bv_sub, bv_mul, bv_eql, bv_neq, bv_lss, bv_leq, bv_gtr, bv_geq, bv_quo, bv_rem, bv_shl, bv_shr, bv_seq, bv_sne, bv_ptr, bv_if, bv_map, bv_nf, bv_bool, bv_sl, bv_fn, uv_not, uv_neg, eqV, nilV, nc_ptr, nc_fn, nc_if, Option.map_some, toN, Nat.mul_one, implies_true, true_and, and_true, and_self, Option.isNone_some]
  refine (bind_one 1 5 9 h1 z1).mono ?_
  rintro _ w2 ⟨rfl, h2, hf2⟩
  have F2 := Fm.far hf1 hf2 (Nat.le_refl _)
  simp only [isB_i, isK_i, isP_i, isTup_i, isInt_i, isSl_i, isPtr_i, isCs_i, isStr_i, isFn_i, isIf_i, rd_i, br_t, br_f, orO_s, orO_n, gd_t, bv_add, bv_sub, bv_mul, bv_eql, bv_neq, bv_lss, bv_leq, bv_gtr, bv_geq, bv_quo, bv_rem, bv_shl, bv_shr, bv_seq, bv_sne, bv_ptr, bv_if, bv_map, bv_nf, bv_bool, bv_sl, bv_fn, uv_not, uv_neg, eqV, nilV, nc_ptr, nc_fn, nc_if, Option.map_some, toN, Nat.mul_one, implies_true, true_and, and_true, and_self]
  refine (bind_one 2 5 9 h2 F2.size).mono ?_
  rintro _ w3 ⟨rfl, h3, hf3⟩
  have F3 := Fm.far F2 hf3 (Nat.le_refl _)
  simp only [isB_i, isK_i, isP_i, isTup_i, isInt_i, isSl_i, isPtr_i, isCs_i, isStr_i, isFn_i, isIf_i, rd_i, br_t, br_f, orO_s, orO_n, gd_t, bv_add, bv_sub, bv_mul, bv_eql, bv_neq, bv_lss, bv_leq, bv_gtr, bv_geq, bv_quo, bv_rem, bv_shl, bv_shr, bv_seq, bv_sne, bv_ptr, bv_if, bv_map, bv_nf, bv_bool, bv_sl, bv_fn, uv_not, uv_neg, eqV, nilV, nc_ptr, nc_fn, nc_if, Option.map_some, toN, Nat.mul_one, implies_true, true_and, and_true, and_self]
  refine (bind_one 1 5 8 h3 F3.size).mono ?_
  rintro _ w4 ⟨rfl, h4, hf4⟩
  have F4 := Fm.far F3 hf4 (Nat.le_refl _)
  simp only [isB_i, isK_i, isP_i, isTup_i, isInt_i, isSl_i, isPtr_i, isCs_i, isStr_i, isFn_i, isIf_i, rd_i, br_t, br_f, orO_s, orO_n, gd_t, bv_add, bv_sub, bv_mul, bv_eql, bv_neq, bv_lss, bv_leq, bv_gtr, bv_geq, bv_quo, bv_rem, bv_shl, bv_shr, bv_seq, bv_sne, bv_ptr, bv_if, bv_map, bv_nf, bv_bool, bv_sl, bv_fn, uv_not, uv_neg, eqV, nilV, nc_ptr, nc_fn, nc_if, Option.map_some, toN, Nat.mul_one, implies_true, true_and, and_true, and_self]
  refine (ask_c 1 5 h4).mono ?_
  rintro _ w4 ⟨rfl, rfl⟩
  simp only [isB_i, isK_i, isP_i, isTup_i, isInt_i, isSl_i, isPtr_i, isCs_i, isStr_i, isFn_i, isIf_i, rd_i, br_t, br_f, orO_s, orO_n, gd_t, bv_add, bv_sub, bv_mul, bv_eql, bv_neq, bv_lss, bv_leq, bv_gtr, bv_geq, bv_quo, bv_rem, bv_shl, bv_shr, bv_seq, bv_sne, bv_ptr, bv_if, bv_map, bv_nf, bv_bool, bv_sl, bv_fn, uv_not, uv_neg, eqV, nilV, nc_ptr, nc_fn, nc_if, Option.map_some, toN, Nat.mul_one, implies_true, true_and, and_true, and_self, List.getElem?_cons_zero, List.getElem?_cons_succ]
  refine (ask_c 1 6 h4).mono ?_
  rintro _ w4 ⟨rfl, rfl⟩
  simp only [isB_i, isK_i, isP_i, isTup_i, isInt_i, isSl_i, isPtr_i, isCs_i, isStr_i, isFn_i, isIf_i, rd_i, br_t, br_f, orO_s, orO_n, gd_t, bv_add, bv_sub, bv_mul, bv_eql, bv_neq, bv_lss, bv_leq, bv_gtr, bv_geq, bv_quo, bv_rem, bv_shl, bv_shr, bv_seq, bv_sne, bv_ptr, bv_if, bv_map, bv_nf, bv_bool, bv_sl, bv_fn, uv_not, uv_neg, eqV, nilV, nc_ptr, nc_fn, nc_if, Option.map_some, toN, Nat.mul_one, implies_true, true_and, and_true, and_self, List.getElem?_cons_zero, List.getElem?_cons_succ]
  refine (bind_one 1 69 10 h4 F4.size).mono ?_
  rintro _ w5 ⟨rfl, h5, hf5⟩
  have F5 := Fm.far F4 hf5 (Nat.le_refl _)
  simp only [isB_i, isK_i, isP_i, isTup_i, isInt_i, isSl_i, isPtr_i, isCs_i, isStr_i, isFn_i, isIf_i, rd_i, br_t, br_f, orO_s, orO_n, gd_t, bv_add, bv_sub, bv_mul, bv_eql, bv_neq, bv_lss, bv_leq, bv_gtr, bv_geq, bv_quo, bv_rem, bv_shl, bv_shr, bv_seq, bv_sne, bv_ptr, bv_if, bv_map, bv_nf, bv_bool, bv_sl, bv_fn, uv_not, uv_neg, eqV, nilV, nc_ptr, nc_fn, nc_if, Option.map_some, toN, Nat.mul_one, implies_true, true_and, and_true, and_self]
  refine (ask_c 1 5 h5).mono ?_
  rintro _ w5 ⟨rfl, rfl⟩
  simp only [isB_i, isK_i, isP_i, isTup_i, isInt_i, isSl_i, isPtr_i, isCs_i, isStr_i, isFn_i, isIf_i, rd_i, br_t, br_f, orO_s, orO_n, gd_t, bv_add, bv_sub, bv_mul, bv_eql, bv_neq, bv_lss, bv_leq, bv_gtr, bv_geq, bv_quo, bv_rem, bv_shl, bv_shr, bv_seq, bv_sne, bv_ptr, bv_if, bv_map, bv_nf, bv_bool, bv_sl, bv_fn, uv_not, uv_neg, eqV, nilV, nc_ptr, nc_fn, nc_if, Option.map_some, toN, Nat.mul_one, implies_true, true_and, and_true, and_self, List.getElem?_cons_zero, List.getElem?_cons_succ]
  have e1 : (bindS ⟨[], []⟩ 1 5 9).1 = 0 := by kernel_rfl
  have e2 : (bindS (bindS ⟨[], []⟩ 1 5 9).2 2 5 9).1 = 1 := by kernel_rfl
  have e3 : (bindS (bindS (bindS ⟨[], []⟩ 1 5 9).2 2 5 9).2 1 5 8).1 = 7 := by kernel_rfl
  have e4 : askS (bindS (bindS (bindS ⟨[], []⟩ 1 5 9).2 2 5 9).2 1 5 8).2 1 5 = (9, 0) := by kernel_rfl
  have e5 : (askS (bindS (bindS (bindS ⟨[], []⟩ 1 5 9).2 2 5 9).2 1 5 8).2 1 6).2 = 6 := by kernel_rfl
  have e6 : (askS (bindS (bindS (bindS (bindS ⟨[], []⟩ 1 5 9).2 2 5 9).2 1 5 8).2 1 69 10).2 1 5).2 = 7 := by kernel_rfl
  have e7 : lenS (bindS (bindS (bindS (bindS ⟨[], []⟩ 1 5 9).2 2 5 9).2 1 5 8).2 1 69 10).2 = 1 := by kernel_rfl
  simp only [e1, e2, e3, e4, e5, e6, decide_true, isB_i, isK_i, isP_i, isTup_i, isInt_i, isSl_i, isPtr_i, isCs_i, isStr_i, isFn_i, isIf_i, rd_i, br_t, br_f, orO_s, orO_n, gd_t, bv_add, bv_sub, bv_mul, bv_eql, bv_neq, bv_lss, bv_leq, bv_gtr, bv_geq, bv_quo, bv_rem, bv_shl, bv_shr, bv_seq, bv_sne, bv_ptr, bv_if, bv_map, bv_nf, bv_bool, bv_sl, bv_fn, uv_not, uv_neg, eqV, nilV, nc_ptr, nc_fn, nc_if, Option.map_some, toN, Nat.mul_one, implies_true, true_and, and_true, and_self]
  refine (len_one h5 (by rw [e7]; omega)).mono ?_
  rintro _ w6 ⟨rfl, h6, hf6⟩
  simp only [e7, isB_i, isK_i, isP_i, isTup_i, isInt_i, isSl_i, isPtr_i, isCs_i, isStr_i, isFn_i, isIf_i, rd_i, br_t, br_f, orO_s, orO_n, gd_t, bv_add, bv_sub, bv_mul, bv_eql, bv_neq, bv_lss, bv_leq, bv_gtr, bv_geq, bv_quo, bv_rem, bv_shl, bv_shr, bv_seq, bv_sne, bv_ptr, bv_if, bv_map, bv_nf, bv_bool, bv_sl, bv_fn, uv_not, uv_neg, eqV, nilV, nc_ptr, nc_fn, nc_if, Option.map_some, toN, Nat.mul_one, implies_true, true_and, and_true, and_self]
  exact ⟨rfl, Fm.far F5 hf6 (Nat.le_refl _)⟩
end Go.Proofs.Ytfdbojnikoonbaa
