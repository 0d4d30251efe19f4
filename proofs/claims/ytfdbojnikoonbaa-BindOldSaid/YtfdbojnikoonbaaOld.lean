/- BindOld comes to true and turns nothing that was there.  Conditions: the argument's cells hold numbers of sixteen bits. -/
import Derived.Test.YtfdbojnikoonbaaTwice
import Derived.Test.YtfdbojnikoonbaaC3
namespace Go.Proofs.Ytfdbojnikoonbaa
set_option linter.unusedSimpArgs false
set_option linter.unusedVariables false
open Go Go.RowKit VC
theorem u16_wrap (n : Int) : IntKind.u16.wrap n = n % 65536 := by simp [IntKind.wrap, IntKind.bits, IntKind.signed]
theorem andI_u16 (a : Int) : 0 ≤ andI .u16 a 4095 ∧ andI .u16 a 4095 ≤ 4095 := by
  unfold andI
  have hb : IntKind.bits .u16 = 16 := rfl
  rw [hb, u16_wrap]
  have h1 : (BitVec.ofInt 16 4095).toNat = 4095 := rfl
  have h2 : (BitVec.ofInt 16 a &&& BitVec.ofInt 16 4095).toNat ≤ 4095 := by
    rw [BitVec.toNat_and, h1]; exact Nat.and_le_right
  omega
theorem dist_small {a b : Int} (h : -32768 ≤ a - b ∧ a - b ≤ 32767) : dist a b = a - b := by
  unfold dist
  rw [u16_wrap]
  have : IntKind.i16.wrap ((a - b) % 65536) = a - b := by
    simp only [IntKind.wrap, IntKind.bits, IntKind.signed]
    simp
    split <;> omega
  rw [this, w64 (by omega)]
theorem newer_small {a b : Int} (ha : 0 ≤ a ∧ a ≤ 4095) (hb : 0 ≤ b ∧ b ≤ 4095) : newer a b = decide (b < a) := by
  unfold newer
  rw [dist_small (by omega)]
  exact decide_eq_decide.2 (by omega)
theorem reach_small {n p : Int} (ha : 0 ≤ n ∧ n ≤ 4095) (hb : 0 ≤ p ∧ p ≤ 4095) : reach n p = decide (n - p < 64) := by
  unfold reach
  rw [newer_small hb ha, dist_small (by omega), Bool.eq_iff_iff]
  simp only [Bool.or_eq_true, Bool.and_eq_true, decide_eq_true_eq]
  omega
theorem pigeon : ∀ (n : Nat) (lo : Int) (l : List Int), l.Nodup → (∀ x ∈ l, lo < x ∧ x ≤ lo + n) → l.length ≤ n := by
  intro n
  induction n with
  | zero =>
    intro lo l _ h
    cases l with
    | nil => exact Nat.le_refl _
    | cons x l => have := h x List.mem_cons_self; omega
  | succ n ih =>
    intro lo l hn h
    have h1 := ih lo (l.erase (lo + (n + 1))) (hn.erase _) (fun x hx => by
      have h2 := hn.mem_erase_iff.1 hx
      have := h x h2.2
      have h3 := h2.1
      omega)
    rw [List.length_erase] at h1
    split at h1 <;> omega
theorem setM_nodup {α : Type} {k : Int} {v : α} {l : List (Int × α)} (hn : (l.map (·.1)).Nodup) : ((setM k v l).map (·.1)).Nodup := by
  cases h : getM k l with
  | some v' => rw [setM_keys h]; exact hn
  | none =>
    rw [setM_none h, List.map_append]
    exact List.nodup_append.2 ⟨hn, by simp, fun x hx y hy e => by
      simp at hy
      exact (getM_mem.1 h) (by rw [← hy, ← e]; exact hx)⟩
/-- What is so when k numbers were bound. -/
def InvO (a : Int) (xs : Nat → Int) (k : Nat) (s : St) (nw : Int) : Prop :=
  (∀ q ∈ s.used.map (·.1), q ≤ (k : Int)) ∧ 0 ≤ nw ∧ nw ≤ 4095 ∧
  ((k = 0 ∧ s.cs = []) ∨ (0 < k ∧ ∃ c : Cl, s.cs = [(a, c)] ∧ c.newest = nw ∧ (c.ids.map (·.1)).Nodup ∧ (∀ q ∈ c.ids.map (·.1), 0 ≤ q ∧ q ≤ nw ∧ nw - q < 64) ∧ ∀ j, j < k → xs j ≤ nw ∧ (nw - xs j < 64 → (getM (xs j) c.ids).isSome = true)))
theorem left_mem {g : Int → Bool} {l : List (Int × Int)} {q : Int} (h : q ∈ (left g [] l).map (·.1)) : q ∈ l.map (·.1) ∧ g q = false := by
  rw [left_eq] at h
  obtain ⟨p, hp, rfl⟩ := List.mem_map.1 h
  obtain ⟨h1, h2⟩ := List.mem_filter.1 hp
  exact ⟨List.mem_map_of_mem h1, by simpa using h2⟩
theorem setM_key {α : Type} {k q : Int} {v : α} {l : List (Int × α)} (h : q ∈ (setM k v l).map (·.1)) : q = k ∨ q ∈ l.map (·.1) := by
  obtain ⟨p, hp, rfl⟩ := List.mem_map.1 h
  rcases mem_setM hp with rfl | h2
  · exact .inl rfl
  · exact .inr (List.mem_map_of_mem h2.1)
theorem some_key {α : Type} {k : Int} {l : List (Int × α)} (h : (getM k l).isSome = true) : k ∈ l.map (·.1) := by
  cases hg : getM k l with
  | none => rw [hg] at h; cases h
  | some v => exact List.mem_map_of_mem (f := (·.1)) (getM_some hg)
theorem oldStep (a : Int) (xs : Nat → Int) (k : Nat) (s : St) (nw : Int) (hx : ∀ j, 0 ≤ xs j ∧ xs j ≤ 4095) (h : InvO a xs k s nw) :
    ((bindS s a (xs k) (k + 1)).1 = 0 → InvO a xs (k + 1) (bindS s a (xs k) (k + 1)).2 (if k = 0 then xs k else if nw < xs k then xs k else nw)) ∧
    ((bindS s a (xs k) (k + 1)).1 ≠ 0 → InvO a xs (k + 1) (bindS s a (xs k) (k + 1)).2 nw) := by
  obtain ⟨hu, h0, h1, hc⟩ := h
  have hxk := hx k
  have hfr : ∀ q ∈ s.used.map (·.1), q ≠ (k : Int) + 1 := fun q hq => by have := hu q hq; omega
  have hbind : bindS s a (xs k) (k + 1) = if (askS s a (xs k)).2 = 6 then (0, putS s a (xs k) (k + 1)) else (7, s) := by
    unfold bindS
    rw [if_neg (by rw [fresh_of hfr]; simp; omega)]
  have hus : ∀ q ∈ (bindS s a (xs k) (k + 1)).2.used.map (·.1), q ≤ ((k + 1 : Nat) : Int) := fun q hq => by
    rcases bindS_used hq with e | e
    · omega
    · have := hu q e; omega
  rcases hc with ⟨rfl, hcs⟩ | ⟨hk, c, hcs, hnw, hnd, hin, hall⟩
  · have ha : askS s a (xs 0) = (0, 6) := by unfold askS; rw [hcs]; rfl
    have hold : oldC s a (xs 0) = ⟨xs 0, []⟩ := by unfold oldC; rw [hcs]; rfl
    have hcs' : (putS s a (xs 0) (0 + 1)).cs = [(a, ⟨xs 0, [(xs 0, 0 + 1)]⟩)] := by
      rw [putS_cs, hold, hcs]
      unfold newC
      rw [newer_self, if_neg (by simp)]
      rfl
    rw [ha, if_pos rfl] at hbind
    constructor
    · intro _
      rw [if_pos rfl]
      refine ⟨hus, by omega, by omega, .inr ⟨by omega, ⟨xs 0, [(xs 0, 0 + 1)]⟩, ?_, rfl, by simp, ?_, ?_⟩⟩
      · rw [hbind]; exact hcs'
      · intro q hq; simp at hq; subst hq; omega
      · intro j hj
        obtain rfl : j = 0 := by omega
        exact ⟨Int.le_refl _, fun _ => by simp [getM]⟩
    · intro h; rw [hbind] at h; exact absurd rfl h
  · have hg : getM a s.cs = some c := by rw [hcs]; simp [getM]
    have hold : oldC s a (xs k) = c := by unfold oldC; rw [hg]; rfl
    subst hnw
    cases hp : getM (xs k) c.ids with
    | some id =>
      have ha : askS s a (xs k) = (id, 0) := by unfold askS; rw [hg]; simp only [hp]
      rw [ha, if_neg (by simp)] at hbind
      have hm := hin _ (some_key (k := xs k) (l := c.ids) (by rw [hp]; rfl))
      refine ⟨fun h => by rw [hbind] at h; simp at h, fun _ => ⟨hus, h0, h1, .inr ⟨by omega, c, by rw [hbind]; exact hcs, rfl, hnd, hin, fun j hj => ?_⟩⟩⟩
      by_cases hjk : j = k
      · subst hjk; exact ⟨hm.2.1, fun _ => by rw [hp]; rfl⟩
      · exact hall j (by omega)
    | none =>
      by_cases hr : c.newest - xs k < 64
      · have hrt : reach c.newest (xs k) = true := by rw [reach_small ⟨h0, h1⟩ hxk]; simpa using hr
        have ha : askS s a (xs k) = (0, 6) := by unfold askS; rw [hg]; simp only [hp, hrt, if_true]
        rw [ha, if_pos rfl] at hbind
        refine ⟨fun _ => ?_, fun h => by rw [hbind] at h; exact absurd rfl h⟩
        rw [if_neg (by omega)]
        have hcs' : (putS s a (xs k) (k + 1)).cs = [(a, newC c (xs k) (k + 1))] := by
          rw [putS_cs, hold, hcs]; simp [setM]
        by_cases hn : c.newest < xs k
        · have hnt : newer (xs k) c.newest = true := by rw [newer_small hxk ⟨h0, h1⟩]; simpa using hn
          rw [if_pos hn]
          have hnc : newC c (xs k) (k + 1) = ⟨xs k, left (fun q => !reach (xs k) q) [] (setM (xs k) (k + 1) c.ids)⟩ := by unfold newC; rw [if_pos hnt]
          refine ⟨hus, by omega, by omega, .inr ⟨by omega, newC c (xs k) (k + 1), by rw [hbind]; exact hcs', by rw [hnc], ?_, ?_, ?_⟩⟩
          · rw [hnc, left_eq]
            exact (setM_nodup hnd).sublist (List.filter_sublist.map _)
          · intro q hq
            rw [hnc] at hq
            obtain ⟨h2, h3⟩ := left_mem (g := fun q => !reach (xs k) q) (l := setM (xs k) (k + 1) c.ids) hq
            have hq4 : 0 ≤ q ∧ q ≤ xs k := by
              rcases setM_key h2 with rfl | h4
              · omega
              · have := hin q h4; omega
            have h3 : reach (xs k) q = true := by simpa using h3
            rw [reach_small hxk (by omega)] at h3
            exact ⟨hq4.1, hq4.2, by simpa using h3⟩
          · intro j hj
            rw [newC_get]
            have hj4 : xs j ≤ xs k := by
              by_cases hjk : j = k
              · subst hjk; omega
              · have := (hall j (by omega)).1; omega
            refine ⟨hj4, fun h5 => ?_⟩
            rw [reach_small hxk (hx j), if_neg (by simp; omega)]
            by_cases hjk : xs j = xs k
            · rw [if_pos hjk]; rfl
            · rw [if_neg hjk]
              have hjk' : j < k := by
                rcases Nat.lt_or_ge j k with h | h
                · exact h
                · exact absurd (by rw [show j = k by omega]) hjk
              exact (hall j hjk').2 (by omega)
        · have hnt : newer (xs k) c.newest = false := by rw [newer_small hxk ⟨h0, h1⟩]; simpa using hn
          rw [if_neg hn]
          have hnc : newC c (xs k) (k + 1) = ⟨c.newest, setM (xs k) (k + 1) c.ids⟩ := by unfold newC; rw [if_neg (by rw [hnt]; simp)]
          refine ⟨hus, h0, h1, .inr ⟨by omega, newC c (xs k) (k + 1), by rw [hbind]; exact hcs', by rw [hnc], ?_, ?_, ?_⟩⟩
          · rw [hnc]; exact setM_nodup hnd
          · intro q hq
            rw [hnc] at hq
            rcases setM_key hq with rfl | h4
            · omega
            · exact hin q h4
          · intro j hj
            rw [newC_get, if_neg (by rw [hnt]; simp)]
            by_cases hjk : xs j = xs k
            · rw [if_pos hjk]; exact ⟨by omega, fun _ => rfl⟩
            · rw [if_neg hjk]
              have hjk' : j < k := by
                rcases Nat.lt_or_ge j k with h | h
                · exact h
                · exact absurd (by rw [show j = k by omega]) hjk
              exact hall j hjk'
      · have hrt : reach c.newest (xs k) = false := by rw [reach_small ⟨h0, h1⟩ hxk]; simpa using hr
        have ha : askS s a (xs k) = (0, 7) := by unfold askS; rw [hg]; simp only [hp, hrt]; rfl
        rw [ha, if_neg (by simp)] at hbind
        refine ⟨fun h => by rw [hbind] at h; simp at h, fun _ => ⟨hus, h0, h1, .inr ⟨by omega, c, by rw [hbind]; exact hcs, rfl, hnd, hin, fun j hj => ?_⟩⟩⟩
        by_cases hjk : j = k
        · subst hjk; exact ⟨by omega, fun h => absurd h hr⟩
        · exact hall j (by omega)
theorem oldLen {a : Int} {xs : Nat → Int} {k : Nat} {s : St} {nw : Int} (h : InvO a xs k s nw) : lenS s ≤ 64 := by
  obtain ⟨hu, h0, h1, ⟨rfl, hcs⟩ | ⟨hk, c, hcs, hnw, hnd, hin, hall⟩⟩ := h
  · simp [lenS, hcs]
  · have := pigeon 64 (nw - 64) (c.ids.map (·.1)) hnd fun x hx => by have := hin x hx; omega
    simp only [lenS, hcs, List.map_cons, List.map_nil, List.sum_cons, List.sum_nil]
    simpa using this
theorem oldAsk {a : Int} {xs : Nat → Int} {k j : Nat} {s : St} {nw : Int} (hx : ∀ j, 0 ≤ xs j ∧ xs j ≤ 4095) (h : InvO a xs k s nw) (hj : j < k) : xs j ≤ nw ∧ (nw - xs j < 64 → (askS s a (xs j)).2 = 0) ∧ (64 ≤ nw - xs j → (askS s a (xs j)).2 = 7) := by
  obtain ⟨hu, h0, h1, ⟨rfl, hcs⟩ | ⟨hk, c, hcs, hnw, hnd, hin, hall⟩⟩ := h
  · omega
  · have hg : getM a s.cs = some c := by rw [hcs]; simp [getM]
    subst hnw
    refine ⟨(hall j hj).1, fun h => ?_, fun h => ?_⟩
    · have := (hall j hj).2 h
      cases hp : getM (xs j) c.ids with
      | none => rw [hp] at this; cases this
      | some id => unfold askS; rw [hg]; simp only [hp]
    · cases hp : getM (xs j) c.ids with
      | some id => have := hin _ (some_key (k := xs j) (l := c.ids) (by rw [hp]; rfl)); omega
      | none =>
        have hrt : reach c.newest (xs j) = false := by rw [reach_small ⟨h0, h1⟩ (hx j)]; simp; omega
        unfold askS; rw [hg]; simp only [hp, hrt]; rfl
set_option maxHeartbeats 1000000 in
set_option maxRecDepth 20000 in
theorem old_c (a : Int) (bp : Option Addr) (bn bc : Nat) (ss : Nat → Int) (W : World) (hl : ∀ i, i < bn → ∃ ad, bp = some ad ∧ W.cell? (ad.add i) = some (.int .u16 (ss i))) :
    callV Try.prog 3 [.int .i64 a, .slice bp bn bc] W fun v w' => v = .bool true ∧ Fm none' W w' := by
  refine vc3 a bp bn bc W _ ?_
  obtain ⟨xs, hxs⟩ : ∃ xs : Nat → Int, xs = fun i => andI .u16 (ss i) 4095 := ⟨_, rfl⟩
  have hxe : ∀ i, andI .u16 (ss i) 4095 = xs i := fun i => by rw [hxs]
  have hx : ∀ j, 0 ≤ xs j ∧ xs j ≤ 4095 := fun j => by rw [hxs]; exact andI_u16 _
  refine (shown_c W).mono ?_
  rintro _ w1 ⟨rfl, hf1⟩
  simp only [isB_i, isK_i, isP_i, isTup_i, isInt_i, isSl_i, isPtr_i, isCs_i, isStr_i, isFn_i, isIf_i, rd_i, br_t, br_f, orO_s, orO_n, gd_t, bv_add, bv_sub, bv_mul, bv_eql, bv_neq, bv_lss, bv_leq, bv_gtr, bv_geq, bv_quo, bv_rem, bv_shl, bv_shr, bv_seq, bv_sne, bv_ptr, bv_if, bv_map, bv_nf, bv_bool, bv_sl, bv_fn, uv_not, uv_neg, eqV, nilV, nc_ptr, nc_fn, nc_if, Option.map_some, toN, Nat.mul_one, implies_true, true_and, and_true, and_self]
  refine (new_one (N := W.heap.size) w1 hf1.size).mono ?_
  rintro _ w4 ⟨T, rfl, hT, hf4⟩
  simp only [isB_i, isK_i, isP_i, isTup_i, isInt_i, isSl_i, isPtr_i, isCs_i, isStr_i, isFn_i, isIf_i, rd_i, br_t, br_f, orO_s, orO_n, gd_t, bv_add, bv_sub, bv_mul, bv_eql, bv_neq, bv_lss, bv_leq, bv_gtr, bv_geq, bv_quo, bv_rem, bv_shl, bv_shr, bv_seq, bv_sne, bv_ptr, bv_if, bv_map, bv_nf, bv_bool, bv_sl, bv_fn, uv_not, uv_neg, eqV, nilV, nc_ptr, nc_fn, nc_if, Option.map_some, toN, Nat.mul_one, implies_true, true_and, and_true, and_self, Option.isNone_some]
  obtain ⟨m, hm⟩ : ∃ m, m = min bn 200 := ⟨_, rfl⟩
  refine ⟨fun u w' => ∃ (s : St) (nw : Int), u 7 = .int .u16 nw ∧ TabAt w' (fun i => W.heap.size ≤ i) T s ∧ InvO a xs m s nw ∧ Fm none' W w', ?_, ?_⟩
  · refine ⟨fun u w' => ∃ (k : Nat) (s : St) (nw : Int), k ≤ m ∧ u 7 = .int .u16 nw ∧ u 8 = .bool (decide (0 < k)) ∧ u 9 = .int .i64 k ∧ TabAt w' (fun i => W.heap.size ≤ i) T s ∧ InvO a xs k s nw ∧ Fm none' W w', fun u _ => 200 - (intOf (u 9)).toNat, ?_, ?_⟩
    · exact ⟨0, ⟨[], []⟩, 0, by omega, rfl, rfl, rfl, hT, ⟨by simp, by omega, by omega, .inl ⟨rfl, rfl⟩⟩, hf1.trans hf4⟩
    rintro u w10 ⟨k, s, nw, hk, h7, h8, h9, hT, hI, hF⟩
    change u 7 = .int .u16 nw at h7
    change u 8 = .bool (decide (0 < k)) at h8
    change u 9 = .int .i64 k at h9
    simp only [h7, h8, h9, isB_i, isK_i, isP_i, isTup_i, isInt_i, isSl_i, isPtr_i, isCs_i, isStr_i, isFn_i, isIf_i, rd_i, br_t, br_f, orO_s, orO_n, gd_t, bv_add, bv_sub, bv_mul, bv_eql, bv_neq, bv_lss, bv_leq, bv_gtr, bv_geq, bv_quo, bv_rem, bv_shl, bv_shr, bv_seq, bv_sne, bv_ptr, bv_if, bv_map, bv_nf, bv_bool, bv_sl, bv_fn, uv_not, uv_neg, eqV, nilV, nc_ptr, nc_fn, nc_if, Option.map_some, toN, Nat.mul_one, implies_true, true_and, and_true, and_self]
    refine br_dec (fun hkn => ?_) (fun hkn => ⟨s, nw, rfl, hT, by rw [show m = k by omega]; exact hI, hF⟩)
    refine br_dec (fun hkn2 => ?_) (fun hkn2 => ⟨s, nw, rfl, hT, by rw [show m = k by omega]; exact hI, hF⟩)
    obtain ⟨ad, rfl, hc⟩ := hl k (by omega)
    simp only [isB_i, isK_i, isP_i, isTup_i, isInt_i, isSl_i, isPtr_i, isCs_i, isStr_i, isFn_i, isIf_i, rd_i, br_t, br_f, orO_s, orO_n, gd_t, bv_add, bv_sub, bv_mul, bv_eql, bv_neq, bv_lss, bv_leq, bv_gtr, bv_geq, bv_quo, bv_rem, bv_shl, bv_shr, bv_seq, bv_sne, bv_ptr, bv_if, bv_map, bv_nf, bv_bool, bv_sl, bv_fn, uv_not, uv_neg, eqV, nilV, nc_ptr, nc_fn, nc_if, Option.map_some, toN, Nat.mul_one, implies_true, true_and, and_true, and_self]
    refine ⟨by omega, rd_of (hF.cell hc id) ?_⟩
    simp only [isB_i, isK_i, isP_i, isTup_i, isInt_i, isSl_i, isPtr_i, isCs_i, isStr_i, isFn_i, isIf_i, rd_i, br_t, br_f, orO_s, orO_n, gd_t, bv_add, bv_sub, bv_mul, bv_eql, bv_neq, bv_lss, bv_leq, bv_gtr, bv_geq, bv_quo, bv_rem, bv_shl, bv_shr, bv_seq, bv_sne, bv_ptr, bv_if, bv_map, bv_nf, bv_bool, bv_sl, bv_fn, uv_not, uv_neg, eqV, nilV, nc_ptr, nc_fn, nc_if, Option.map_some, toN, Nat.mul_one, implies_true, true_and, and_true, and_self, hxe]
    rw [w64 (by omega)]
    refine (bind_one a (xs k) (k + 1) hT hF.size).mono ?_
    rintro _ w20 ⟨rfl, hT20, hf20⟩
    have hF20 := Fm.far hF hf20 (Nat.le_refl _)
    obtain ⟨st1, st2⟩ := oldStep a xs k s nw hx hI
    simp only [isB_i, isK_i, isP_i, isTup_i, isInt_i, isSl_i, isPtr_i, isCs_i, isStr_i, isFn_i, isIf_i, rd_i, br_t, br_f, orO_s, orO_n, gd_t, bv_add, bv_sub, bv_mul, bv_eql, bv_neq, bv_lss, bv_leq, bv_gtr, bv_geq, bv_quo, bv_rem, bv_shl, bv_shr, bv_seq, bv_sne, bv_ptr, bv_if, bv_map, bv_nf, bv_bool, bv_sl, bv_fn, uv_not, uv_neg, eqV, nilV, nc_ptr, nc_fn, nc_if, Option.map_some, toN, Nat.mul_one, implies_true, true_and, and_true, and_self]
    refine ⟨fun u w' => ∃ nw' : Int, u 7 = .int .u16 nw' ∧ u 8 = .bool true ∧ InvO a xs (k + 1) (bindS s a (xs k) (k + 1)).2 nw' ∧ TabAt w' (fun i => W.heap.size ≤ i) T (bindS s a (xs k) (k + 1)).2 ∧ Fm none' W w', ?_, ?_⟩
    · refine br_dec (fun he => ?_) (fun he => ?_)
      · have st1 := st1 he
        refine br_ndec (fun hk0 => ?_) (fun hk0 => ?_)
        · rw [if_pos (by omega)] at st1
          exact ⟨xs k, rfl, rfl, st1, hT20, hF20⟩
        · rw [if_neg (by omega)] at st1
          refine br_dec (fun hn => ?_) (fun hn => ?_)
          · rw [if_pos hn] at st1
            exact ⟨xs k, rfl, rfl, st1, hT20, hF20⟩
          · rw [if_neg hn] at st1
            refine ⟨nw, rfl, ?_, st1, hT20, hF20⟩
            show Value.bool (decide (0 < k)) = .bool true
            rw [decide_eq_true hk0]
      · refine ⟨nw, rfl, ?_, st2 he, hT20, hF20⟩
        show Value.bool (decide (0 < k)) = .bool true
        rw [decide_eq_true]
        rcases Nat.eq_zero_or_pos k with rfl | h
        · exfalso
          obtain ⟨hu, _, _, ⟨_, hcs⟩ | ⟨h, _⟩⟩ := hI
          · apply he
            unfold bindS
            have ha : askS s a (xs 0) = (0, 6) := by unfold askS; rw [hcs]; rfl
            rw [if_neg (by rw [fresh_of (fun q hq => by have := hu q hq; omega)]; simp), if_pos (by rw [ha])]
          · omega
        · exact h
    rintro u26 w27 ⟨nw', h7', h8', hI', hT27, hF27⟩
    change u26 7 = .int .u16 nw' at h7'
    change u26 8 = .bool true at h8'
    have hle := oldLen hI'
    refine (len_one hT27 (by omega)).mono ?_
    rintro _ w30 ⟨rfl, hT30, hf30⟩
    simp only [h7', h8', isB_i, isK_i, isP_i, isTup_i, isInt_i, isSl_i, isPtr_i, isCs_i, isStr_i, isFn_i, isIf_i, rd_i, br_t, br_f, orO_s, orO_n, gd_t, bv_add, bv_sub, bv_mul, bv_eql, bv_neq, bv_lss, bv_leq, bv_gtr, bv_geq, bv_quo, bv_rem, bv_shl, bv_shr, bv_seq, bv_sne, bv_ptr, bv_if, bv_map, bv_nf, bv_bool, bv_sl, bv_fn, uv_not, uv_neg, eqV, nilV, nc_ptr, nc_fn, nc_if, Option.map_some, toN, Nat.mul_one, implies_true, true_and, and_true, and_self]
    refine br_dec (fun h => absurd h (by omega)) (fun _ => ?_)
    refine ⟨⟨k + 1, _, nw', by omega, rfl, by show Value.bool true = _; rw [decide_eq_true (by omega)], rfl, hT30, hI', Fm.far hF27 hf30 (Nat.le_refl _)⟩, ?_⟩
    show 200 - ((k : Int) + 1).toNat < 200 - (k : Int).toNat; omega
  rintro u34 w35 ⟨s, nw, h7, hT, hI, hF⟩
  change u34 7 = .int .u16 nw at h7
  refine ⟨fun u w' => ∃ k : Nat, k ≤ 200 ∧ u 12 = .int .i64 k ∧ TabAt w' (fun i => W.heap.size ≤ i) T s ∧ Fm none' W w', fun u _ => 200 - (intOf (u 12)).toNat, ⟨0, by omega, rfl, hT, hF⟩, ?_⟩
  rintro u39 w40 ⟨k, hk, h12, hT, hF⟩
  change u39 12 = .int .i64 k at h12
  simp only [h12, h7, isB_i, isK_i, isP_i, isTup_i, isInt_i, isSl_i, isPtr_i, isCs_i, isStr_i, isFn_i, isIf_i, rd_i, br_t, br_f, orO_s, orO_n, gd_t, bv_add, bv_sub, bv_mul, bv_eql, bv_neq, bv_lss, bv_leq, bv_gtr, bv_geq, bv_quo, bv_rem, bv_shl, bv_shr, bv_seq, bv_sne, bv_ptr, bv_if, bv_map, bv_nf, bv_bool, bv_sl, bv_fn, uv_not, uv_neg, eqV, nilV, nc_ptr, nc_fn, nc_if, Option.map_some, toN, Nat.mul_one, implies_true, true_and, and_true, and_self]
  refine br_dec (fun hkn => ?_) (fun hkn => hF)
  refine br_dec (fun hkn2 => ?_) (fun hkn2 => hF)
  obtain ⟨ad, rfl, hc⟩ := hl k (by omega)
  refine ⟨fun _ w' => TabAt w' (fun i => W.heap.size ≤ i) T s ∧ Fm none' W w', ?_, ?_⟩
  · simp only [isB_i, isK_i, isP_i, isTup_i, isInt_i, isSl_i, isPtr_i, isCs_i, isStr_i, isFn_i, isIf_i, rd_i, br_t, br_f, orO_s, orO_n, gd_t, bv_add, bv_sub, bv_mul, bv_eql, bv_neq, bv_lss, bv_leq, bv_gtr, bv_geq, bv_quo, bv_rem, bv_shl, bv_shr, bv_seq, bv_sne, bv_ptr, bv_if, bv_map, bv_nf, bv_bool, bv_sl, bv_fn, uv_not, uv_neg, eqV, nilV, nc_ptr, nc_fn, nc_if, Option.map_some, toN, Nat.mul_one, implies_true, true_and, and_true, and_self]
    refine ⟨by omega, rd_of (hF.cell hc id) ?_⟩
    simp only [isB_i, isK_i, isP_i, isTup_i, isInt_i, isSl_i, isPtr_i, isCs_i, isStr_i, isFn_i, isIf_i, rd_i, br_t, br_f, orO_s, orO_n, gd_t, bv_add, bv_sub, bv_mul, bv_eql, bv_neq, bv_lss, bv_leq, bv_gtr, bv_geq, bv_quo, bv_rem, bv_shl, bv_shr, bv_seq, bv_sne, bv_ptr, bv_if, bv_map, bv_nf, bv_bool, bv_sl, bv_fn, uv_not, uv_neg, eqV, nilV, nc_ptr, nc_fn, nc_if, Option.map_some, toN, Nat.mul_one, implies_true, true_and, and_true, and_self, hxe]
    refine (ask_c a (xs k) hT).mono ?_
    rintro _ w50 ⟨rfl, rfl⟩
    simp only [isB_i, isK_i, isP_i, isTup_i, isInt_i, isSl_i, isPtr_i, isCs_i, isStr_i, isFn_i, isIf_i, rd_i, br_t, br_f, orO_s, orO_n, gd_t, bv_add, bv_sub, bv_mul, bv_eql, bv_neq, bv_lss, bv_leq, bv_gtr, bv_geq, bv_quo, bv_rem, bv_shl, bv_shr, bv_seq, bv_sne, bv_ptr, bv_if, bv_map, bv_nf, bv_bool, bv_sl, bv_fn, uv_not, uv_neg, eqV, nilV, nc_ptr, nc_fn, nc_if, Option.map_some, toN, Nat.mul_one, implies_true, true_and, and_true, and_self, List.getElem?_cons_zero, List.getElem?_cons_succ]
    obtain ⟨q1, q2, q3⟩ := oldAsk hx hI (j := k) (by omega)
    have hxk := hx k
    have hnw := hI.2.2.1
    rw [u16_wrap, show (nw - xs k) % 65536 = nw - xs k by omega]
    refine br_dec (fun h => absurd h (by omega)) (fun _ => ?_)
    by_cases hb : nw - xs k < 64
    · rw [q2 hb]
      refine br_ndec (fun h => absurd ?_ h) (fun _ => ?_)
      · simp [hb]
      · exact br_dec (fun h => absurd h (by omega)) (fun _ => ⟨hT, hF⟩)
    · rw [q3 (by omega)]
      refine br_ndec (fun h => absurd ?_ h) (fun _ => ?_)
      · simp [hb]
      · refine br_dec (fun _ => ?_) (fun h => absurd (by omega) h)
        exact br_ndec (fun h => absurd rfl h) (fun _ => ⟨hT, hF⟩)
  · rintro u60 w61 ⟨hT, hF⟩
    rw [w64 (by omega)]
    refine ⟨⟨k + 1, by omega, rfl, hT, hF⟩, ?_⟩
    show 200 - ((k : Int) + 1).toNat < 200 - (k : Int).toNat; omega
end Go.Proofs.Ytfdbojnikoonbaa
