/- What NetBack needs, part 9 of 12: RRd D3 RMs Reads DgX LawB DgB LawK.  Conditions: as each part says. -/
import Derived.Test.YtipikchkbmgloaaDoorNetBackA8
namespace Go.Proofs.YtipikchkbmgloaaDoor
set_option linter.unusedSimpArgs false
set_option linter.unusedVariables false
open Go Go.RowKit VC
variable {w : World} {R : Nat} {s : RS}

theorem pow_int {a k c : Nat} (h : a ≤ k) (hc : 2 ^ k = c) : (2 : Int) ^ a ≤ (c : Int) := by
  have := Nat.pow_le_pow_right (n := 2) (by omega) h
  rw [hc] at this
  have h2 := Int.ofNat_le.2 this
  rw [Int.natCast_pow] at h2
  exact h2
def RefAt (w : World) (R : Nat) (s : RS) : Prop :=
  ∃ rem : List Int, w.heap[R]? = some (.cells #[.string (txt rem), .int .i64 s.e] 121 (0, 0)) ∧ (s.e = 0 → rem = s.rem) ∧ (∀ b ∈ rem, Bit b) ∧ rem.length ≤ 1000000
theorem RefAt.keep {w' : World} {S : Nat → Prop} (h : RefAt w R s) (f : Fm S w w') (hS : ¬ S R) : RefAt w' R s := by
  obtain ⟨rem, h1, h2⟩ := h
  exact ⟨rem, f.keep h1 hS, h2⟩
theorem slice_txt_h {bs : List Int} {h : Nat} {K : Value → World → Prop} (hh : h ≤ bs.length) (k : K (.string (txt (bs.take h))) w) : runs Tryd.prog (Instr.sliceAt 9 (.string (txt bs)) none (some (.int .i64 (h : Int))) none) w K := by
  have hu := string_of_row (P := Tryd.prog) (t := 9) (by rw [row9])
  refine ⟨_, _, ?_, k⟩
  rw [run_sliceAt_string w 9 _ _ _ _ hu, run_slice_string_h w 9 _ hu _ _ (by omega) (by rw [txt_size]; omega)]
  unfold txt
  rw [Int.toNat_natCast, extract_str, List.drop_zero, List.map_take]
theorem slice_txt_l {bs : List Int} {h : Nat} {K : Value → World → Prop} (hh : h ≤ bs.length) (k : K (.string (txt (bs.drop h))) w) : runs Tryd.prog (Instr.sliceAt 9 (.string (txt bs)) (some (.int .i64 (h : Int))) none none) w K := by
  have hu := string_of_row (P := Tryd.prog) (t := 9) (by rw [row9])
  refine ⟨_, _, ?_, k⟩
  rw [run_sliceAt_string w 9 _ _ _ _ hu, run_slice_string_l w 9 _ hu _ _ (by omega) (by rw [txt_size]; omega)]
  unfold txt
  rw [Int.toNat_natCast, extract_str, strOfNums_size, List.take_length, List.map_drop]
theorem failE_ne {e n : Int} {ok : Bool} (h : e ≠ 0) : failE e ok n = e := by unfold failE; rw [if_neg (fun x => h x.2)]
set_option maxRecDepth 20000 in
theorem take54_c {k : Nat} (hk : k ≤ 64) (h : RefAt w R s) : callV Tryd.prog 83 [.pointer (some ⟨R, 0, none⟩), .int .i64 k] w fun v w' =>
    ∃ x, v = .string (txt x) ∧ x.length ≤ k ∧ (∀ b ∈ x, Bit b) ∧ (s.e = 0 → x = if s.rem.length < k then [] else s.rem.take k) ∧ RefAt w' R (rdW k s).2 ∧ Fm (fun i => i = R) w w' := by
  obtain ⟨rem, h1, h2, h3, h4⟩ := h
  refine vc83 ⟨R, 0, none⟩ k w _ ?_
  simp only [addr_add, Nat.zero_add]
  refine rd_of (v := .int .i64 s.e) (cellOf h1 rfl) ?_
  simp only [vcs, eqV, nilV, Option.map_some, Nat.mul_one, implies_true, true_and, and_true, and_self]
  have nilx : ∀ b ∈ ([] : List Int), Bit b := fun b hb => by cases hb
  refine br_dec (fun he => ?_) (fun he => ?_)
  · have hrem := h2 he
    subst hrem
    refine rd_of (v := .string (txt s.rem)) (cellOf h1 rfl) ?_
    simp only [vcs, eqV, nilV, Option.map_some, Nat.mul_one, implies_true, true_and, and_true, and_self, txt_size]
    refine br_dec (fun hl => ?_) (fun hl => ?_)
    · refine stC_one h1 (by simp) rfl fun w4 hw4 hf4 => ?_
      refine rd_of (v := .int .i64 2) (cellOf hw4 rfl) ?_
      simp only [vcs, eqV, nilV, Option.map_some, Nat.mul_one, implies_true, true_and, and_true, and_self]
      refine br_ndec (fun _ => ?_) (fun h => by omega)
      refine ⟨[], rfl, by simp, nilx, fun _ => by rw [if_pos (by omega)], ?_, hf4⟩
      have hs : (rdW k s).2 = ⟨[], 2⟩ := by
        unfold rdW getR failE
        rw [if_pos (by omega), he]; simp
      rw [hs]
      exact ⟨s.rem, hw4, fun h => by simp at h, h3, h4⟩
    · refine rd_of (v := .int .i64 s.e) (cellOf h1 rfl) ?_
      simp only [vcs, eqV, nilV, Option.map_some, Nat.mul_one, implies_true, true_and, and_true, and_self]
      refine br_ndec (fun h => absurd he h) (fun _ => ?_)
      refine rd_of (v := .string (txt s.rem)) (cellOf h1 rfl) ?_
      simp only [vcs, eqV, nilV, Option.map_some, Nat.mul_one, implies_true, true_and, and_true, and_self]
      refine slice_txt_h (by omega) ?_
      simp only [vcs, eqV, nilV, Option.map_some, Nat.mul_one, implies_true, true_and, and_true, and_self]
      refine rd_of (v := .string (txt s.rem)) (cellOf h1 rfl) ?_
      simp only [vcs, eqV, nilV, Option.map_some, Nat.mul_one, implies_true, true_and, and_true, and_self]
      refine slice_txt_l (by omega) ?_
      simp only [vcs, eqV, nilV, Option.map_some, Nat.mul_one, implies_true, true_and, and_true, and_self]
      refine stC_one h1 (by simp) rfl fun w4 hw4 hf4 => ?_
      refine ⟨s.rem.take k, rfl, by rw [List.length_take]; omega, fun b hb => h3 b (List.mem_of_mem_take hb), fun _ => by rw [if_neg (by omega)], ?_, hf4⟩
      have hs : (rdW k s).2 = ⟨s.rem.drop k, s.e⟩ := by
        unfold rdW getR failE
        rw [if_neg (by omega)]; simp
      rw [hs]
      exact ⟨s.rem.drop k, hw4, fun _ => rfl, fun b hb => h3 b (List.mem_of_mem_drop hb), by rw [List.length_drop]; omega⟩
  · refine rd_of (v := .int .i64 s.e) (cellOf h1 rfl) ?_
    simp only [vcs, eqV, nilV, Option.map_some, Nat.mul_one, implies_true, true_and, and_true, and_self]
    refine br_ndec (fun _ => ?_) (fun h => absurd h he)
    refine ⟨[], rfl, by simp, nilx, fun h => absurd h he, ?_, Fm.refl _ _⟩
    have hs : (rdW k s).2 = ⟨(getR k s.rem).2.1, s.e⟩ := by
      unfold rdW
      simp only [failE_ne he]
    rw [hs]
    exact ⟨rem, h1, fun h => absurd h he, h3, h4⟩
theorem rdW_val {k : Nat} (s : RS) : (rdW k s).1 = val (if s.rem.length < k then [] else s.rem.take k) := by
  unfold rdW getR
  split <;> rfl
theorem number34_c {k : Nat} (hk : k ≤ 62) (h : RefAt w R s) : callV Tryd.prog 57 [.pointer (some ⟨R, 0, none⟩), .int .i64 k] w fun v w' =>
    ∃ x, v = .int .i64 x ∧ (0 ≤ x ∧ x < 2 ^ k) ∧ (s.e = 0 → x = (rdW k s).1) ∧ RefAt w' R (rdW k s).2 ∧ Fm (fun i => i = R) w w' := by
  refine vc57 ⟨R, 0, none⟩ k w _ ?_
  refine (take54_c (by omega) h).mono ?_
  rintro _ w1 ⟨x, rfl, hl, hb, hx, hr, hf⟩
  simp only [vcs, eqV, nilV, Option.map_some, Nat.mul_one, implies_true, true_and, and_true, and_self]
  refine (number55_c hb (by omega)).mono ?_
  rintro _ w4 ⟨rfl, hf4⟩
  simp only [vcs, eqV, nilV, Option.map_some, Nat.mul_one, implies_true, true_and, and_true, and_self]
  have hv := val_bound hb
  have hp : (2 : Int) ^ x.length ≤ 2 ^ k := by
    have := Nat.pow_le_pow_right (n := 2) (by omega) hl
    exact_mod_cast this
  have hp2 : (2 : Int) ^ k ≤ 2 ^ 62 := by
    have := Nat.pow_le_pow_right (n := 2) (by omega) hk
    exact_mod_cast this
  have h62 : (2 : Int) ^ 62 = 4611686018427387904 := rfl
  rw [w64 (by omega)]
  refine ⟨_, rfl, ⟨hv.1, by omega⟩, fun he => ?_, hr.keep hf4 id, hf.trans' hf4 fun i _ h => h.elim⟩
  rw [rdW_val, hx he]
theorem sgn_eq {k : Nat} (hk : k = 8 ∨ k = 18 ∨ k = 32) {v : Int} (h : 0 ≤ v ∧ v < 2 ^ k) : sgn k v = if 2 ^ (k - 1) ≤ v then v - 2 ^ k else v := by
  unfold sgn
  rw [u64w, IntKind.wrap_i64]
  rcases hk with rfl | rfl | rfl <;> simp only [Nat.reduceSub, Int.reducePow] at h ⊢ <;> rw [Int.fdiv_eq_ediv_of_nonneg _ (by omega)] <;> split <;> omega
theorem txt_nil {bs : List Int} (h : txt bs = ({ data := #[] } : ByteArray)) : bs = [] := by
  have := congrArg ByteArray.size h
  rw [txt_size] at this
  exact List.length_eq_zero_iff.1 this
set_option maxRecDepth 20000 in
theorem signed63_c {bs : List Int} (hb : ∀ b ∈ bs, Bit b) (hl : bs.length ≤ 32) : callV Tryd.prog 92 [.string (txt bs)] w fun v w' => v = .int .i64 (if bs ≠ [] ∧ 2 ^ (bs.length - 1) ≤ val bs then val bs - 2 ^ bs.length else val bs) ∧ Fm none' w w' := by
  refine vc92 _ w _ ?_
  refine (number55_c hb (by omega)).mono ?_
  rintro _ w1 ⟨rfl, hf1⟩
  simp only [vcs, eqV, nilV, Option.map_some, Nat.mul_one, implies_true, true_and, and_true, and_self, txt_size]
  have hv := val_bound hb
  have hp : (2 : Int) ^ bs.length ≤ 4294967296 := by
    exact pow_int (c := 4294967296) hl rfl
  have hw : IntKind.i64.wrap (val bs) = val bs := w64 (by omega)
  refine br_ndec (fun hne => ?_) (fun he => ?_)
  · have hne' : bs ≠ [] := by rintro rfl; exact hne rfl
    obtain ⟨b, t, rfl⟩ := List.exists_cons_of_ne_nil hne'
    have hbb := hb b (by simp)
    refine index_str (ys := (b :: t).map (48 + ·)) (j := 0) (by rw [row9]) (txt_r hb) rfl ?_
    simp only [vcs, eqV, nilV, Option.map_some, Nat.mul_one, implies_true, true_and, and_true, and_self]
    have hvt := val_bound (bs := t) fun x hx => hb x (by simp [hx])
    have hvc := val_cons b t
    have hpw : (2 : Int) ^ (b :: t).length = 2 * 2 ^ t.length := by rw [List.length_cons, Int.pow_succ]; omega
    have hl1 : (b :: t).length - 1 = t.length := by simp
    rw [hl1]
    refine br_dec (fun h49 => ?_) (fun h49 => ?_)
    · obtain rfl : b = 1 := by omega
      refine br_dec (fun _ => ?_) (fun h => absurd (by omega) h)
      have hs : min ((1 :: t).length % 18446744073709551616) 64 = (1 :: t).length := by rw [Nat.mod_eq_of_lt (by omega)]; omega
      rw [hs, hw, Int.one_mul, w64 (n := 2 ^ (1 :: t).length) (by omega), w64 (by omega)]
      refine ⟨?_, hf1⟩
      rw [if_pos ⟨by simp, by omega⟩]
    · obtain rfl : b = 0 := by rcases hbb with h | h; exact h; omega
      rw [hw]
      refine ⟨?_, hf1⟩
      rw [if_neg (by rintro ⟨_, h⟩; omega)]
  · have := txt_nil he
    subst this
    exact ⟨rfl, hf1⟩
theorem signed56_c {k : Nat} (hk : k = 8 ∨ k = 18 ∨ k = 32) (h : RefAt w R s) : callV Tryd.prog 85 [.pointer (some ⟨R, 0, none⟩), .int .i64 k] w fun v w' =>
    ∃ x, v = .int .i64 x ∧ I64 x ∧ (s.e = 0 → x = (rdS k s).1) ∧ RefAt w' R (rdS k s).2 ∧ Fm (fun i => i = R) w w' := by
  refine vc85 ⟨R, 0, none⟩ k w _ ?_
  refine (take54_c (by omega) h).mono ?_
  rintro _ w1 ⟨x, rfl, hl, hb, hx, hr, hf⟩
  simp only [vcs, eqV, nilV, Option.map_some, Nat.mul_one, implies_true, true_and, and_true, and_self]
  refine (signed63_c hb (by omega)).mono ?_
  rintro _ w4 ⟨rfl, hf4⟩
  simp only [vcs, eqV, nilV, Option.map_some, Nat.mul_one, implies_true, true_and, and_true, and_self]
  have hv := val_bound hb
  have hp : (2 : Int) ^ x.length ≤ 4294967296 := by
    exact pow_int (c := 4294967296) (show x.length ≤ 32 by omega) rfl
  refine ⟨_, rfl, ?_, fun he => ?_, hr.keep hf4 id, hf.trans' hf4 fun i _ h => h.elim⟩
  · unfold I64; split <;> omega
  · have h1 : (rdS k s).1 = sgn k (rdW k s).1 := rfl
    rw [h1, rdW_val, hx he]
    by_cases hs : s.rem.length < k
    · rw [if_pos hs]
      have : sgn k (val []) = 0 := by rcases hk with rfl | rfl | rfl <;> decide
      rw [this]; rfl
    · rw [if_neg hs]
      have hxl : (s.rem.take k).length = k := by rw [List.length_take]; omega
      have hxb := hb
      rw [hx he, if_neg hs] at hxb
      have hv2 := val_bound hxb
      rw [hxl] at hv2
      rw [sgn_eq hk hv2, hxl]
      have hne : s.rem.take k ≠ [] := by intro h; rw [h] at hxl; simp at hxl; omega
      simp [hne]
theorem must35_c {ok ok' : Bool} (hok : s.e = 0 → ok = ok') (h : RefAt w R s) : callV Tryd.prog 58 [.pointer (some ⟨R, 0, none⟩), .bool ok] w fun v w' => v = .tuple #[] ∧ RefAt w' R (rdF ok' s) ∧ Fm (fun i => i = R) w w' := by
  obtain ⟨rem, h1, h2, h3, h4⟩ := h
  refine vc58 ⟨R, 0, none⟩ ok w _ ?_
  simp only [addr_add, Nat.zero_add]
  have same : (s.e ≠ 0 ∨ ok = true) → RefAt w R (rdF ok' s) := by
    intro hc
    have : rdF ok' s = s := by
      by_cases he : s.e = 0
      · have : ok' = true := by rw [← hok he]; exact hc.resolve_left (fun h => h he)
        rw [this, rdF_true]
      · unfold rdF; rw [failE_ne he]
    rw [this]
    exact ⟨rem, h1, h2, h3, h4⟩
  refine br_ndec' (fun hf => ?_) (fun ht => ⟨trivial, same (.inr ht), Fm.refl _ _⟩)
  refine rd_of (v := .int .i64 s.e) (cellOf h1 rfl) ?_
  simp only [vcs, eqV, nilV, Option.map_some, Nat.mul_one, implies_true, true_and, and_true, and_self]
  refine br_dec (fun he => ?_) (fun he => ⟨same (.inl he), Fm.refl _ _⟩)
  refine stC_one h1 (by simp) rfl fun w2 hw2 hf2 => ⟨?_, hf2⟩
  have : rdF ok' s = ⟨s.rem, 3⟩ := by
    unfold rdF failE
    rw [if_pos ⟨by rw [← hok he]; exact hf, he⟩]
  rw [this]
  exact ⟨rem, hw2, fun h => by simp at h, h3, h4⟩
theorem id58_c (h : RefAt w R s) : callV Tryd.prog 87 [.pointer (some ⟨R, 0, none⟩)] w fun v w' => ∃ x, v = .int .i64 x ∧ I64 x ∧ (s.e = 0 → x = (rdId s).1) ∧ RefAt w' R (rdId s).2 ∧ Fm (fun i => i = R) w w' := by
  refine vc87 ⟨R, 0, none⟩ w _ ?_
  refine (number34_c (k := 31) (by omega) h).mono ?_
  rintro _ w1 ⟨x, rfl, hr, hx, h1, hf1⟩
  simp only [vcs, eqV, nilV, Option.map_some, Nat.mul_one, implies_true, true_and, and_true, and_self]
  have hw : IntKind.i64.wrap x = x := w64 (by omega)
  have heq : s.e = 0 → IntKind.i64.wrap (rdW 31 s).1 = x := fun he => by rw [← hx he, hw]
  refine (must35_c (ok' := decide (0 < IntKind.i64.wrap (rdW 31 s).1)) (fun he => ?_) h1).mono ?_
  · rw [heq ((good_W 31).back s he)]
  rintro _ w4 ⟨rfl, h4, hf4⟩
  exact ⟨x, rfl, by unfold I64; omega, fun he => (heq he).symm, h4, hf1.trans hf4⟩
set_option maxRecDepth 20000 in
theorem vec57_c {k : Nat} {d : Int} (hk : k = 8 ∨ k = 18 ∨ k = 32) (hd : I64 d) (h : RefAt w R s) : callV Tryd.prog 86 [.pointer (some ⟨R, 0, none⟩), .int .i64 k, .int .i64 d] w fun v w' =>
    ∃ x y z, v = .agg #[.int .i64 x, .int .i64 y, .int .i64 z] ∧ (s.e = 0 → x = (stepV k d s).1) ∧ ((stepV k d s).2.e = 0 → y = (stepV k d (stepV k d s).2).1) ∧ ((stepV k d (stepV k d s).2).2.e = 0 → z = (stepV k d (stepV k d (stepV k d s).2).2).1) ∧
      RefAt w' R (stepV k d (stepV k d (stepV k d s).2).2).2 ∧ Fm (fun i => i = R) w w' := by
  obtain ⟨rem0, hR0, -⟩ := id h
  have hRl := lt_of_blk hR0
  refine vc86 ⟨R, 0, none⟩ k d w _ ?_
  refine allocC_of fun w1 hb1 hs1 hf1 => allocC_of fun w3 hb3 hs3 hf3 => ?_
  obtain ⟨A, hA⟩ : ∃ A, A = w.heap.size := ⟨_, rfl⟩
  obtain ⟨X, hX⟩ : ∃ X, X = w1.heap.size := ⟨_, rfl⟩
  have hA3 := hf3.keep hb1 id
  rw [← hA] at hA3 ⊢
  rw [← hX] at hb3 ⊢
  refine stC_all hb3 rfl (by intro v hv; simp at hv; subst hv; rfl) fun w4 hb4 hf4 => ?_
  have hF4 : Fm (fun i => i = R) w w4 := (hf1.trans hf3).none.trans' hf4 (by rintro i hi rfl; omega)
  have h4 : RefAt w4 R s := ((h.keep hf1 id).keep hf3 id).keep hf4 (by omega)
  have hA4 := hf4.keep hA3 (by omega)
  -- one axis
  have must : ∀ {w : World} {s : RS} {i : Nat} {C : Array Value} {x : Int} {K : World → Prop}, RefAt w R (rdS k s).2 → w.heap[X]? = some (.cells C 51 (0, 0)) → C[i]? = some (.int .i64 x) → (s.e = 0 → x = (rdS k s).1) →
      (∀ w', RefAt w' R (stepV k d s).2 → Fm (fun i => i = R) w w' → K w') →
      br (decide (d < 0)) (callV Tryd.prog 58 [.pointer (some ⟨R, 0, none⟩), .bool true] w fun _ w' => K w')
        (rd (w.cell? ⟨X, i, none⟩) fun v => isK .i64 v fun a => br (decide (a ≤ d)) (rd (w.cell? ⟨X, i, none⟩) fun v => isK .i64 v fun b => callV Tryd.prog 58 [.pointer (some ⟨R, 0, none⟩), .bool (decide (IntKind.i64.wrap (0 - d) ≤ b))] w fun _ w' => K w')
          (callV Tryd.prog 58 [.pointer (some ⟨R, 0, none⟩), .bool false] w fun _ w' => K w')) := by
    intro w s i C x K hr hC hi hx kk
    have hst : (stepV k d s).2 = rdF (decide (d < 0) || (decide (IntKind.i64.wrap (0 - d) ≤ (rdS k s).1) && decide ((rdS k s).1 ≤ d))) (rdS k s).2 := rfl
    have go : ∀ ok : Bool, ((rdS k s).2.e = 0 → ok = (decide (d < 0) || (decide (IntKind.i64.wrap (0 - d) ≤ (rdS k s).1) && decide ((rdS k s).1 ≤ d)))) → callV Tryd.prog 58 [.pointer (some ⟨R, 0, none⟩), .bool ok] w fun _ w' => K w' := by
      intro ok hok
      refine (must35_c hok hr).mono ?_
      rintro _ w' ⟨-, h1, h2⟩
      exact kk w' (by rw [hst]; exact h1) h2
    refine br_dec (fun hd => go true fun _ => by rw [decide_eq_true hd]; rfl) (fun hd => ?_)
    refine rd_of (v := .int .i64 x) (cellOf hC hi) ?_
    simp only [vcs, eqV, nilV, Option.map_some, Nat.mul_one, implies_true, true_and, and_true, and_self]
    have hxe : (rdS k s).2.e = 0 → x = (rdS k s).1 := fun he => hx ((good_S k).back s he)
    refine br_dec (fun h1 => ?_) (fun h1 => go false fun he => ?_)
    · refine rd_of (v := .int .i64 x) (cellOf hC hi) ?_
      simp only [vcs, eqV, nilV, Option.map_some, Nat.mul_one, implies_true, true_and, and_true, and_self]
      refine go _ fun he => ?_
      rw [← hxe he, decide_eq_false hd, decide_eq_true h1]; simp
    · rw [← hxe he, decide_eq_false hd, decide_eq_false h1]; simp
  have hRX : R ≠ X := by omega
  refine (signed56_c hk h4).mono ?_
  rintro _ w6 ⟨x, rfl, hix, hx, h6, hf6⟩
  simp only [vcs, eqV, nilV, Option.map_some, Nat.mul_one, implies_true, true_and, and_true, and_self]
  have hb6 := hf6.keep hb4 (by omega)
  refine stC_one hb6 (by simp) rfl fun w8 hb8 hf8 => ?_
  have h8 := h6.keep hf8 hRX
  have hF8 : Fm (fun i => i = R) w w8 := (hF4.trans hf6).trans' hf8 (by rintro i hi rfl; omega)
  have hA8 := hf8.keep (hf6.keep hA4 (by omega)) (by omega)
  refine ⟨fun _ w' => RefAt w' R (stepV k d s).2 ∧ Fm (fun i => i = R) w8 w', must h8 hb8 rfl hx fun w' h1 h2 => ⟨h1, h2⟩, ?_⟩
  rintro - w22 ⟨h22, hf22⟩
  have hb22 := hf22.keep hb8 (by omega)
  have hA22 := hf22.keep hA8 (by omega)
  refine (signed56_c hk h22).mono ?_
  rintro _ w25 ⟨y, rfl, hiy, hy, h25, hf25⟩
  simp only [vcs, eqV, nilV, Option.map_some, Nat.mul_one, implies_true, true_and, and_true, and_self]
  have hb25 := hf25.keep hb22 (by omega)
  refine stC_one hb25 (by simp) rfl fun w27 hb27 hf27 => ?_
  have h27 := h25.keep hf27 hRX
  have hA27 := hf27.keep (hf25.keep hA22 (by omega)) (by omega)
  have hF27 : Fm (fun i => i = R) w w27 := ((hF8.trans hf22).trans hf25).trans' hf27 (by rintro i hi rfl; omega)
  refine ⟨fun _ w' => RefAt w' R (stepV k d (stepV k d s).2).2 ∧ Fm (fun i => i = R) w27 w', must h27 hb27 rfl hy fun w' h1 h2 => ⟨h1, h2⟩, ?_⟩
  rintro - w41 ⟨h41, hf41⟩
  have hb41 := hf41.keep hb27 (by omega)
  have hA41 := hf41.keep hA27 (by omega)
  refine (signed56_c hk h41).mono ?_
  rintro _ w44 ⟨z, rfl, hiz, hz, h44, hf44⟩
  simp only [vcs, eqV, nilV, Option.map_some, Nat.mul_one, implies_true, true_and, and_true, and_self]
  have hb44 := hf44.keep hb41 (by omega)
  refine stC_one hb44 (by simp) rfl fun w46 hb46 hf46 => ?_
  have h46 := h44.keep hf46 hRX
  have hA46 := hf46.keep (hf44.keep hA41 (by omega)) (by omega)
  have hF46 : Fm (fun i => i = R) w w46 := ((hF27.trans hf41).trans hf44).trans' hf46 (by rintro i hi rfl; omega)
  refine ⟨fun _ w' => RefAt w' R (stepV k d (stepV k d (stepV k d s).2).2).2 ∧ Fm (fun i => i = R) w46 w', must h46 hb46 rfl hz fun w' h1 h2 => ⟨h1, h2⟩, ?_⟩
  rintro - w60 ⟨h60, hf60⟩
  have hb60 := hf60.keep hb46 (by omega)
  have hA60 := hf60.keep hA46 (by omega)
  refine rd_of (v := ([.int .i64 x, .int .i64 y, .int .i64 z] : List Value)) (cells_all hb60 rfl) ?_
  refine rd_of (v := ()) rfl ?_
  refine stC_all hA60 rfl (by intro v hv; simp at hv; rcases hv with rfl | rfl | rfl <;> rfl) fun w63 hb63 hf63 => ?_
  refine rd_of (v := ([.int .i64 x, .int .i64 y, .int .i64 z] : List Value)) (cells_all hb63 rfl) ?_
  exact ⟨x, y, z, rfl, hx, hy, hz, h60.keep hf63 (by omega), (hF46.trans hf60).trans' hf63 (by rintro i hi rfl; omega)⟩
end Go.Proofs.YtipikchkbmgloaaDoor
namespace Go.Proofs.YtipikchkbmgloaaDoor
set_option linter.unusedSimpArgs false
set_option linter.unusedVariables false
open Go VC
theorem vc59 (a : Addr) (w : World) (R : Value → World → Prop)
  (h : allocC w (Obj.cells #[Value.int IntKind.i64 (0 : Int), Value.int IntKind.u16 (0 : Int), Value.int IntKind.u16 (0 : Int), Value.int IntKind.u8 (0 : Int), Value.int IntKind.i8 (0 : Int), Value.int IntKind.i8 (0 : Int), Value.int IntKind.i64 (0 : Int), Value.int IntKind.u16 (0 : Int), Value.int IntKind.i64 (0 : Int), Value.int IntKind.i64 (0 : Int), Value.int IntKind.i64 (0 : Int), Value.int IntKind.i64 (0 : Int), Value.int IntKind.i64 (0 : Int), Value.int IntKind.i64 (0 : Int), Value.int IntKind.i64 (0 : Int), Value.int IntKind.i64 (0 : Int), Value.int IntKind.i64 (0 : Int), Value.int IntKind.i64 (0 : Int), Value.int IntKind.i64 (0 : Int), Value.int IntKind.i64 (0 : Int), Value.int IntKind.u32 (0 : Int), Value.int IntKind.u32 (0 : Int), Value.slice none (0 : Nat) (0 : Nat)] (53 : Nat)) fun n0 w1 => allocC w1 (Obj.cells #[Value.int IntKind.i64 (0 : Int), Value.int IntKind.u16 (0 : Int), Value.int IntKind.u16 (0 : Int), Value.int IntKind.u8 (0 : Int), Value.int IntKind.i8 (0 : Int), Value.int IntKind.i8 (0 : Int), Value.int IntKind.i64 (0 : Int), Value.int IntKind.u16 (0 : Int), Value.int IntKind.i64 (0 : Int), Value.int IntKind.i64 (0 : Int), Value.int IntKind.i64 (0 : Int), Value.int IntKind.i64 (0 : Int), Value.int IntKind.i64 (0 : Int), Value.int IntKind.i64 (0 : Int), Value.int IntKind.i64 (0 : Int), Value.int IntKind.i64 (0 : Int), Value.int IntKind.i64 (0 : Int), Value.int IntKind.i64 (0 : Int), Value.int IntKind.i64 (0 : Int), Value.int IntKind.i64 (0 : Int), Value.int IntKind.u32 (0 : Int), Value.int IntKind.u32 (0 : Int), Value.slice none (0 : Nat) (0 : Nat)] (53 : Nat)) fun n2 w3 => stC w3 { block := n2, off := (0 : Nat) : Addr } [Value.int IntKind.i64 (0 : Int), Value.int IntKind.u16 (0 : Int), Value.int IntKind.u16 (0 : Int), Value.int IntKind.u8 (0 : Int), Value.int IntKind.i8 (0 : Int), Value.int IntKind.i8 (0 : Int), Value.int IntKind.i64 (0 : Int), Value.int IntKind.u16 (0 : Int), Value.int IntKind.i64 (0 : Int), Value.int IntKind.i64 (0 : Int), Value.int IntKind.i64 (0 : Int), Value.int IntKind.i64 (0 : Int), Value.int IntKind.i64 (0 : Int), Value.int IntKind.i64 (0 : Int), Value.int IntKind.i64 (0 : Int), Value.int IntKind.i64 (0 : Int), Value.int IntKind.i64 (0 : Int), Value.int IntKind.i64 (0 : Int), Value.int IntKind.i64 (0 : Int), Value.int IntKind.i64 (0 : Int), Value.int IntKind.u32 (0 : Int), Value.int IntKind.u32 (0 : Int), Value.slice none (0 : Nat) (0 : Nat)] fun w4 => callV Tryd.prog (57 : Nat) [Value.pointer (some a), Value.int IntKind.i64 (4 : Int)] w4 fun v5 w6 => isK IntKind.i64 v5 fun i7 => stC w6 { block := n2, off := (0 : Nat) : Addr } [Value.int IntKind.i64 i7] fun w8 => cutC (fun u9 => rd (World.cell? w8 { block := n2, off := (0 : Nat) : Addr }) fun v10 => isK IntKind.i64 v10 fun i11 => br (decide ((1 : Int) ≤ i11)) (rd (World.cell? w8 { block := n2, off := (0 : Nat) : Addr }) fun v12 => isK IntKind.i64 v12 fun i13 => callV Tryd.prog (58 : Nat) [Value.pointer (some a), Value.bool (decide (i13 ≤ (9 : Int)))] w8 fun v14 w15 => u9 (alist []) w15) (callV Tryd.prog (58 : Nat) [Value.pointer (some a), Value.bool false] w8 fun v16 w17 => u9 (alist []) w17)) fun u18 => ∀ (u19 : Nat → Value) (w20 : World), u18 (alist []) w20 → cutC (fun u22 => rd (World.cell? w20 { block := n2, off := (0 : Nat) : Addr }) fun v23 => isK IntKind.i64 v23 fun i24 => br (decide (i24 = (2 : Int))) (callV Tryd.prog (57 : Nat) [Value.pointer (some a), Value.int IntKind.i64 (16 : Int)] w20 fun v25 w26 => isK IntKind.i64 v25 fun i27 => stC w26 { block := n2, off := (2 : Nat) : Addr } [Value.int IntKind.u16 (IntKind.wrap IntKind.u16 i27)] fun w28 => callV Tryd.prog (57 : Nat) [Value.pointer (some a), Value.int IntKind.i64 (2 : Int)] w28 fun v29 w30 => isK IntKind.i64 v29 fun i31 => stC w30 { block := n2, off := (3 : Nat) : Addr } [Value.int IntKind.u8 (IntKind.wrap IntKind.u8 i31)] fun w32 => callV Tryd.prog (85 : Nat) [Value.pointer (some a), Value.int IntKind.i64 (8 : Int)] w32 fun v33 w34 => isK IntKind.i64 v33 fun i35 => stC w34 { block := n2, off := (4 : Nat) : Addr } [Value.int IntKind.i8 (IntKind.wrap IntKind.i8 i35)] fun w36 => callV Tryd.prog (85 : Nat) [Value.pointer (some a), Value.int IntKind.i64 (8 : Int)] w36 fun v37 w38 => isK IntKind.i64 v37 fun i39 => stC w38 { block := n2, off := (5 : Nat) : Addr } [Value.int IntKind.i8 (IntKind.wrap IntKind.i8 i39)] fun w40 => callV Tryd.prog (57 : Nat) [Value.pointer (some a), Value.int IntKind.i64 (3 : Int)] w40 fun v41 w42 => isK IntKind.i64 v41 fun i43 => stC w42 { block := n2, off := (6 : Nat) : Addr } [Value.int IntKind.i64 (IntKind.wrap IntKind.i64 (i43 + (1 : Int)))] fun w44 => u22 (alist []) w44) (br (decide (i24 = (3 : Int))) (callV Tryd.prog (57 : Nat) [Value.pointer (some a), Value.int IntKind.i64 (16 : Int)] w20 fun v45 w46 => isK IntKind.i64 v45 fun i47 => stC w46 { block := n2, off := (7 : Nat) : Addr } [Value.int IntKind.u16 (IntKind.wrap IntKind.u16 i47)] fun w48 => callV Tryd.prog (57 : Nat) [Value.pointer (some a), Value.int IntKind.i64 (1 : Int)] w48 fun v49 w50 => isK IntKind.i64 v49 fun i51 => stC w50 { block := n2, off := (9 : Nat) : Addr } [Value.int IntKind.i64 i51] fun w52 => callV Tryd.prog (86 : Nat) [Value.pointer (some a), Value.int IntKind.i64 (18 : Int), Value.int IntKind.i64 (65536 : Int)] w52 fun v53 w54 => rd (gd (List.length (Array.toList (Value.cells v53)) == (3 : Nat))) fun _x => stC w54 { block := n2, off := (10 : Nat) : Addr } (cellsOf true v53) fun w55 => u22 (alist []) w55) (br (decide (i24 = (5 : Int))) (callV Tryd.prog (87 : Nat) [Value.pointer (some a)] w20 fun v56 w57 => isK IntKind.i64 v56 fun i58 => stC w57 { block := n2, off := (8 : Nat) : Addr } [Value.int IntKind.i64 i58] fun w59 => u22 (alist []) w59) (br (decide (i24 = (6 : Int))) (callV Tryd.prog (57 : Nat) [Value.pointer (some a), Value.int IntKind.i64 (16 : Int)] w20 fun v60 w61 => isK IntKind.i64 v60 fun i62 => stC w61 { block := n2, off := (1 : Nat) : Addr } [Value.int IntKind.u16 (IntKind.wrap IntKind.u16 i62)] fun w63 => callV Tryd.prog (86 : Nat) [Value.pointer (some a), Value.int IntKind.i64 (32 : Int), Value.int IntKind.i64 (-1 : Int)] w63 fun v64 w65 => rd (gd (List.length (Array.toList (Value.cells v64)) == (3 : Nat))) fun _x => stC w65 { block := n2, off := (14 : Nat) : Addr } (cellsOf true v64) fun w66 => callV Tryd.prog (86 : Nat) [Value.pointer (some a), Value.int IntKind.i64 (32 : Int), Value.int IntKind.i64 (-1 : Int)] w66 fun v67 w68 => rd (gd (List.length (Array.toList (Value.cells v67)) == (3 : Nat))) fun _x => stC w68 { block := n2, off := (17 : Nat) : Addr } (cellsOf true v67) fun w69 => u22 (alist []) w69) (br (decide (i24 = (7 : Int))) (callV Tryd.prog (57 : Nat) [Value.pointer (some a), Value.int IntKind.i64 (16 : Int)] w20 fun v70 w71 => isK IntKind.i64 v70 fun i72 => stC w71 { block := n2, off := (7 : Nat) : Addr } [Value.int IntKind.u16 (IntKind.wrap IntKind.u16 i72)] fun w73 => callV Tryd.prog (87 : Nat) [Value.pointer (some a)] w73 fun v74 w75 => isK IntKind.i64 v74 fun i76 => stC w75 { block := n2, off := (8 : Nat) : Addr } [Value.int IntKind.i64 i76] fun w77 => u22 (alist []) w77) (br (decide (i24 = (8 : Int))) (callV Tryd.prog (57 : Nat) [Value.pointer (some a), Value.int IntKind.i64 (16 : Int)] w20 fun v78 w79 => isK IntKind.i64 v78 fun i80 => stC w79 { block := n2, off := (7 : Nat) : Addr } [Value.int IntKind.u16 (IntKind.wrap IntKind.u16 i80)] fun w81 => callV Tryd.prog (57 : Nat) [Value.pointer (some a), Value.int IntKind.i64 (4 : Int)] w81 fun v82 w83 => isK IntKind.i64 v82 fun i84 => br (decide ((1 : Int) ≤ i84)) (callV Tryd.prog (58 : Nat) [Value.pointer (some a), Value.bool (decide (i84 ≤ (10 : Int)))] w83 fun v85 w86 => stC w86 { block := n2, off := (13 : Nat) : Addr } [Value.int IntKind.i64 i84] fun w87 => u22 (alist []) w87) (callV Tryd.prog (58 : Nat) [Value.pointer (some a), Value.bool false] w83 fun v88 w89 => stC w89 { block := n2, off := (13 : Nat) : Addr } [Value.int IntKind.i64 i84] fun w90 => u22 (alist []) w90)) (br (decide (i24 = (9 : Int))) (callV Tryd.prog (57 : Nat) [Value.pointer (some a), Value.int IntKind.i64 (32 : Int)] w20 fun v91 w92 => isK IntKind.i64 v91 fun i93 => stC w92 { block := n2, off := (20 : Nat) : Addr } [Value.int IntKind.u32 (IntKind.wrap IntKind.u32 i93)] fun w94 => callV Tryd.prog (57 : Nat) [Value.pointer (some a), Value.int IntKind.i64 (32 : Int)] w94 fun v95 w96 => isK IntKind.i64 v95 fun i97 => stC w96 { block := n2, off := (21 : Nat) : Addr } [Value.int IntKind.u32 (IntKind.wrap IntKind.u32 i97)] fun w98 => callV Tryd.prog (57 : Nat) [Value.pointer (some a), Value.int IntKind.i64 (10 : Int)] w98 fun v99 w100 => isK IntKind.i64 v99 fun i101 => loopC (alist [((6 : Nat), Value.int IntKind.i64 (0 : Int))]) w100 fun u102 u103 => ∀ (u104 : Nat → Value) (w105 : World), u102 (alist [((6 : Nat), u104 (6 : Nat))]) w105 → isK IntKind.i64 (u104 (6 : Nat)) fun i107 => br (decide (i107 < i101)) (rd (World.cell? w105 (Addr.add a (1 : Nat))) fun v108 => isK IntKind.i64 v108 fun i109 => br (decide (i109 = (0 : Int))) (callV Tryd.prog (57 : Nat) [Value.pointer (some a), Value.int IntKind.i64 (8 : Int)] w105 fun v110 w111 => isK IntKind.i64 v110 fun i112 => rd (World.cell? w111 { block := n2, off := (22 : Nat) : Addr }) fun v113 => isSl v113 fun o114 n115 n116 => runs Tryd.prog (Instr.buildSlice (25 : Nat) (1 : Nat) #[((0 : Nat), Value.int IntKind.u8 (IntKind.wrap IntKind.u8 i112))]) w111 fun v117 w118 => isSl v117 fun o119 n120 n121 => runs Tryd.prog (Builtin.append_ #[(25 : Nat), (25 : Nat)] (25 : Nat) #[Value.slice o114 n115 n116, Value.slice o119 n120 n121]) w118 fun v122 w123 => isSl v122 fun o124 n125 n126 => stC w123 { block := n2, off := (22 : Nat) : Addr } [Value.slice o124 n125 n126] fun w127 => isK IntKind.i64 (u104 (6 : Nat)) fun i128 => again u102 u103 (alist [((6 : Nat), Value.int IntKind.i64 (IntKind.wrap IntKind.i64 (i128 + (1 : Int))))]) w127 (alist [((6 : Nat), u104 (6 : Nat))]) w105) (u22 (alist []) w105)) (u22 (alist []) w105)) (u22 (alist []) w20)))))))) fun u129 => ∀ (u130 : Nat → Value) (w131 : World), u129 (alist []) w131 → rd (cellsAt w131 { block := n2, off := (0 : Nat) : Addr } (23 : Nat)) fun l133 => rd (gd (List.length l133 == (23 : Nat))) fun _x => stC w131 { block := n0, off := (0 : Nat) : Addr } l133 fun w134 => rd (cellsAt w134 { block := n0, off := (0 : Nat) : Addr } (23 : Nat)) fun l135 => R (Value.agg (List.toArray l135)) w134) :
  callV Tryd.prog 59 [Value.pointer (some a)] w R :=
  vc_of hm ⟨fun n => match n with | 4 => true | 38 => true | _ => false, fun _ => .done, fun n => match n with | 4 => [] | 38 => [] | 34 => [6] | _ => []⟩ Tryd.func59 ent59 (by kernel_rfl) h

theorem vc31 (a : ByteArray) (w : World) (R : Value → World → Prop)
  (h : callV Tryd.prog (56 : Nat) [Value.string a] w fun v0 w1 => isStr v0 fun x2 => allocC w1 (Obj.cells #[Value.string x2, Value.int IntKind.i64 (0 : Int)] (121 : Nat)) fun n3 w4 => callV Tryd.prog (57 : Nat) [Value.pointer (some { block := n3, off := (0 : Nat) : Addr }), Value.int IntKind.i64 (5 : Int)] w4 fun v5 w6 => isK IntKind.i64 v5 fun i7 => callV Tryd.prog (58 : Nat) [Value.pointer (some { block := n3, off := (0 : Nat) : Addr }), Value.bool (decide (i7 ≤ (16 : Int)))] w6 fun v8 w9 => runs Tryd.prog (Instr.buildSlice (24 : Nat) (0 : Nat) #[]) w9 fun v10 w11 => isSl v10 fun o12 n13 n14 => cutC (fun u15 => loopC (alist [((6 : Nat), Value.slice o12 n13 n14)]) w11 fun u16 u17 => ∀ (u18 : Nat → Value) (w19 : World), u16 (alist [((6 : Nat), u18 (6 : Nat))]) w19 → isSl (u18 (6 : Nat)) fun o21 n22 n23 => br (decide ((↑n22 : Int) < i7)) (rd (World.cell? w19 { block := n3, off := (1 : Nat) : Addr }) fun v24 => isK IntKind.i64 v24 fun i25 => br (decide (i25 = (0 : Int))) (callV Tryd.prog (59 : Nat) [Value.pointer (some { block := n3, off := (0 : Nat) : Addr })] w19 fun v26 w27 => allocC w27 (Obj.cells #[Value.int IntKind.i64 (0 : Int), Value.int IntKind.u16 (0 : Int), Value.int IntKind.u16 (0 : Int), Value.int IntKind.u8 (0 : Int), Value.int IntKind.i8 (0 : Int), Value.int IntKind.i8 (0 : Int), Value.int IntKind.i64 (0 : Int), Value.int IntKind.u16 (0 : Int), Value.int IntKind.i64 (0 : Int), Value.int IntKind.i64 (0 : Int), Value.int IntKind.i64 (0 : Int), Value.int IntKind.i64 (0 : Int), Value.int IntKind.i64 (0 : Int), Value.int IntKind.i64 (0 : Int), Value.int IntKind.i64 (0 : Int), Value.int IntKind.i64 (0 : Int), Value.int IntKind.i64 (0 : Int), Value.int IntKind.i64 (0 : Int), Value.int IntKind.i64 (0 : Int), Value.int IntKind.i64 (0 : Int), Value.int IntKind.u32 (0 : Int), Value.int IntKind.u32 (0 : Int), Value.slice none (0 : Nat) (0 : Nat)] (53 : Nat)) fun n28 w29 => rd (gd (List.length (Array.toList (Value.cells v26)) == (23 : Nat))) fun _x => stC w29 { block := n28, off := (0 : Nat) : Addr } (cellsOf true v26) fun w30 => isSl (u18 (6 : Nat)) fun o31 n32 n33 => rd (cellsAt w30 { block := n28, off := (0 : Nat) : Addr } (23 : Nat)) fun l34 => runs Tryd.prog (Instr.buildSlice (24 : Nat) (1 : Nat) #[((0 : Nat), Value.agg (List.toArray l34))]) w30 fun v35 w36 => isSl v35 fun o37 n38 n39 => runs Tryd.prog (Builtin.append_ #[(24 : Nat), (24 : Nat)] (24 : Nat) #[Value.slice o31 n32 n33, Value.slice o37 n38 n39]) w36 fun v40 w41 => isSl v40 fun o42 n43 n44 => again u16 u17 (alist [((6 : Nat), Value.slice o42 n43 n44)]) w41 (alist [((6 : Nat), u18 (6 : Nat))]) w19) (u15 (alist [((6 : Nat), u18 (6 : Nat))]) w19)) (u15 (alist [((6 : Nat), u18 (6 : Nat))]) w19)) fun u45 => ∀ (u46 : Nat → Value) (w47 : World), u45 (alist [((6 : Nat), u46 (6 : Nat))]) w47 → rd (World.cell? w47 { block := n3, off := (0 : Nat) : Addr }) fun v49 => isStr v49 fun x50 => callV Tryd.prog (60 : Nat) [Value.string x50] w47 fun v51 w52 => isB v51 fun t53 => br t53 (callV Tryd.prog (58 : Nat) [Value.pointer (some { block := n3, off := (0 : Nat) : Addr }), Value.bool (decide ((↑(ByteArray.size a) : Int) ≤ (1024 : Int)))] w52 fun v54 w55 => rd (World.cell? w55 { block := n3, off := (1 : Nat) : Addr }) fun v56 => isK IntKind.i64 v56 fun i57 => br (!decide (i57 = (0 : Int))) (rd (World.cell? (World.drew w55) { block := n3, off := (1 : Nat) : Addr }) fun v58 => isK IntKind.i64 v58 fun i59 => R (Value.tuple #[Value.slice none (0 : Nat) (0 : Nat), Value.int IntKind.i64 i59]) (World.drew w55)) (isSl (u46 (6 : Nat)) fun o60 n61 n62 => R (Value.tuple #[Value.slice o60 n61 n62, Value.int IntKind.i64 (0 : Int)]) w55)) (callV Tryd.prog (58 : Nat) [Value.pointer (some { block := n3, off := (0 : Nat) : Addr }), Value.bool false] w52 fun v63 w64 => rd (World.cell? w64 { block := n3, off := (1 : Nat) : Addr }) fun v65 => isK IntKind.i64 v65 fun i66 => br (!decide (i66 = (0 : Int))) (rd (World.cell? (World.drew w64) { block := n3, off := (1 : Nat) : Addr }) fun v67 => isK IntKind.i64 v67 fun i68 => R (Value.tuple #[Value.slice none (0 : Nat) (0 : Nat), Value.int IntKind.i64 i68]) (World.drew w64)) (isSl (u46 (6 : Nat)) fun o69 n70 n71 => R (Value.tuple #[Value.slice o69 n70 n71, Value.int IntKind.i64 (0 : Int)]) w64))) :
  callV Tryd.prog 31 [Value.string a] w R :=
  vc_of hm ⟨fun n => match n with | 8 => true | _ => false, fun n => match n with | 11 => .take 0 (.take 1 (.take 2 (.take 3 (.take 4 (.take 5 (.done)))))) | _ => .done, fun n => match n with | 8 => [6] | 5 => [6] | _ => []⟩ Tryd.func31 ent31 (by kernel_rfl) h

end Go.Proofs.YtipikchkbmgloaaDoor
namespace Go.Proofs.YtipikchkbmgloaaDoor
set_option linter.unusedSimpArgs false
set_option linter.unusedVariables false
open Go Go.RowKit VC
variable {w : World} {R : Nat} {s : RS}
def prM (s : RS) : Msg × RS := ((rdFields (IntKind.i64.wrap (rdW 4 s).1) (rdW 4 s).2).1, rdF (known (blank (IntKind.i64.wrap (rdW 4 s).1))) (rdFields (IntKind.i64.wrap (rdW 4 s).1) (rdW 4 s).2).2)
theorem rdB_stop {s : RS} {n : Nat} {acc : List Int} (h : s.e ≠ 0) : rdB n s acc = (acc, s) := by
  cases n with
  | zero => rfl
  | succ n => rw [rdB, if_neg h]
theorem rdB_e0 (n : Nat) (s : RS) (acc : List Int) (h : (rdB n s acc).2.e = 0) : s.e = 0 := by
  by_cases e : s.e = 0
  · exact e
  · rw [rdB_stop e] at h; exact h
def MsO (w0 w : World) (R O : Nat) (k : Int) (s1 : RS) (w' : World) : Prop :=
  ∃ m q c, w'.heap[O]? = some (.cells (msgC m q c).toArray 53 (0, 0)) ∧ RefAt w' R (rdF (known (blank k)) (rdFields k s1).2) ∧ ((rdF (known (blank k)) (rdFields k s1).2).e = 0 → m = (rdFields k s1).1) ∧
    w'.ownsRow w0.heap.size 5 1 (.slice q m.bytes.length c) m.bytes.length (m.bytes.map (Value.int .u8)) ∧ (∀ y ∈ m.bytes, 0 ≤ y ∧ y < 256) ∧ Fm (fun i => i = R ∨ w0.heap.size < i) w w'
theorem own_nil (w : World) (base : Nat) : w.ownsRow base 5 1 (.slice none ([] : List Int).length 0) ([] : List Int).length (([] : List Int).map (Value.int .u8)) := ⟨rfl, .inl ⟨rfl, rfl⟩⟩
set_option maxRecDepth 20000 in
set_option maxHeartbeats 8000000 in
theorem message36_c (h : RefAt w R s) (he0 : s.e = 0) : callV Tryd.prog 59 [.pointer (some ⟨R, 0, none⟩)] w fun v w' =>
    ∃ m q c, v = .agg (msgC m q c).toArray ∧ RefAt w' R (prM s).2 ∧ ((prM s).2.e = 0 → m = (prM s).1) ∧ w'.ownsRow w.heap.size 5 1 (.slice q m.bytes.length c) m.bytes.length (m.bytes.map (Value.int .u8)) ∧ (∀ y ∈ m.bytes, 0 ≤ y ∧ y < 256) ∧ Fm (fun i => i = R) w w' := by
  obtain ⟨rem0, hR0, -⟩ := id h
  have hRl := lt_of_blk hR0
  refine vc59 ⟨R, 0, none⟩ w _ ?_
  refine allocC_of fun w1 hb1 hs1 hf1 => allocC_of fun w3 hb3 hs3 hf3 => ?_
  obtain ⟨A, hA⟩ : ∃ A, A = w.heap.size := ⟨_, rfl⟩
  obtain ⟨O, hO⟩ : ∃ O, O = w1.heap.size := ⟨_, rfl⟩
  have hA3 := hf3.keep hb1 id
  change w3.heap[w.heap.size]? = some (.cells (msgC (blank 0) none 0).toArray 53 (0, 0)) at hA3
  rw [← hA] at hA3 ⊢
  rw [← hO] at hb3 ⊢
  refine stC_all hb3 rfl (by intro v hv; exact msgC_one (m := blank 0) (q := none) (cq := 0) v hv) fun w4 hb4 hf4 => ?_
  change w4.heap[O]? = some (.cells (msgC (blank 0) none 0).toArray 53 (0, 0)) at hb4
  have h4 : RefAt w4 R s := ((h.keep hf1 id).keep hf3 id).keep hf4 (by omega)
  have hA4 := hf4.keep hA3 (by omega)
  have hF4 : Fm (fun i => i = R) w w4 := (hf1.trans hf3).none.trans' hf4 (by rintro i hi rfl; omega)
  have hRO : R ≠ O := by omega
  have hs4 := hf4.size
  refine (number34_c (k := 4) (by omega) h4).mono ?_
  rintro _ w6 ⟨k, rfl, hkr, hkx, h6, hf6⟩
  simp only [vcs, eqV, nilV, Option.map_some, Nat.mul_one, implies_true, true_and, and_true, and_self]
  obtain ⟨s1, hs1'⟩ : ∃ s1, s1 = (rdW 4 s).2 := ⟨_, rfl⟩
  have hk := hkx he0
  have hwk : IntKind.i64.wrap k = k := w64 (by omega)
  have hpr : prM s = ((rdFields k s1).1, rdF (known (blank k)) (rdFields k s1).2) := by unfold prM; rw [← hk, hwk, hs1']
  rw [← hs1'] at h6
  rw [hpr]
  have hb6 := hf6.keep hb4 (by omega)
  refine stC_one hb6 (by simp [msgC]) rfl fun w8 hb8 hf8 => ?_
  change w8.heap[O]? = some (.cells (msgC (blank k) none 0).toArray 53 (0, 0)) at hb8
  have h8 := h6.keep hf8 hRO
  have hA8 := hf8.keep (hf6.keep hA4 (by omega)) (by omega)
  have hF8 : Fm (fun i => i = R) w w8 := (hF4.trans hf6).trans' hf8 (by rintro i hi rfl; omega)
  refine ⟨fun _ w' => RefAt w' R (rdF (known (blank k)) s1) ∧ Fm (fun i => i = R) w8 w', ?_, ?_⟩
  · have go : ∀ ok : Bool, ok = known (blank k) → callV Tryd.prog 58 [.pointer (some ⟨R, 0, none⟩), .bool ok] w8 fun _ w' => RefAt w' R (rdF (known (blank k)) s1) ∧ Fm (fun i => i = R) w8 w' := by
      intro ok hok
      refine (must35_c (fun _ => hok) h8).mono ?_
      rintro _ w' ⟨-, h1, h2⟩
      exact ⟨h1, h2⟩
    have hkn : known (blank k) = (decide (1 ≤ k) && decide (k ≤ 9)) := rfl
    refine rd_of (v := .int .i64 k) (cellOf hb8 rfl) ?_
    simp only [vcs, eqV, nilV, Option.map_some, Nat.mul_one, implies_true, true_and, and_true, and_self]
    refine br_dec (fun h1 => ?_) (fun h1 => go false (by rw [hkn, decide_eq_false h1]; rfl))
    refine rd_of (v := .int .i64 k) (cellOf hb8 rfl) ?_
    simp only [vcs, eqV, nilV, Option.map_some, Nat.mul_one, implies_true, true_and, and_true, and_self]
    exact go _ (by rw [hkn, decide_eq_true h1]; rfl)
  rintro - w20 ⟨h20, hf20⟩
  have hb20 := hf20.keep hb8 (by omega)
  have hA20 := hf20.keep hA8 (by omega)
  have hs20 := hf20.size
  have hF20 := hF8.trans hf20
  refine ⟨fun _ w' => MsO w w20 R O k s1 w', ?_, ?_⟩
  · refine rd_of (v := .int .i64 k) (cellOf hb20 rfl) ?_
    simp only [vcs, eqV, nilV, Option.map_some, Nat.mul_one, implies_true, true_and, and_true, and_self]
    -- of a kind that is known
    have kn : 1 ≤ k → k ≤ 9 → rdF (known (blank k)) s1 = s1 ∧ ∀ x : RS, rdF (known (blank k)) x = x := fun a b => by
      have : known (blank k) = true := known_iff.2 ⟨a, b⟩
      rw [this]; exact ⟨rdF_true _, rdF_true⟩
    have plain : ∀ {w' : World} {m : Msg} {r : Msg × RS}, 1 ≤ k → k ≤ 9 → rdFields k s1 = r → m.bytes = [] → w'.heap[O]? = some (.cells (msgC m none 0).toArray 53 (0, 0)) → RefAt w' R r.2 → (r.2.e = 0 → m = r.1) → Fm (fun i => i = R ∨ w.heap.size < i) w20 w' → MsO w w20 R O k s1 w' := by
      rintro w' m r a b rfl hb ho hr hm hf
      refine ⟨m, none, 0, ho, ?_, ?_, by rw [hb]; exact own_nil _ _, by rw [hb]; simp, hf⟩
      · rw [(kn a b).2]; exact hr
      · rw [(kn a b).2]; exact hm
    have nO : ∀ {w1 w' : World}, Fm (fun i => i = R) w1 w' → Fm (fun i => i = R ∨ w.heap.size < i) w1 w' := fun f => f.mono fun i _ e => .inl e
    have nX : ∀ {w1 w' : World}, Fm (fun i => i = O) w1 w' → Fm (fun i => i = R ∨ w.heap.size < i) w1 w' := fun f => f.mono fun i _ e => .inr (by omega)
    have kO : ∀ {w w' : World} {o : Obj}, Fm (fun i => i = R) w w' → w.heap[O]? = some o → w'.heap[O]? = some o := fun f h => f.keep h (by omega)
    have kR : ∀ {w w' : World} {s : RS}, Fm (fun i => i = O) w w' → RefAt w R s → RefAt w' R s := fun f h => h.keep f hRO
    refine br_dec (fun k2 => ?_) (fun k2 => ?_)
    · subst k2
      have h20' := h20
      rw [(kn (by omega) (by omega)).1] at h20'
      obtain ⟨⟨a, t1⟩, ha⟩ : ∃ r, rdW 16 s1 = r := ⟨_, rfl⟩
      obtain ⟨⟨b, t2⟩, hb⟩ : ∃ r, rdW 2 t1 = r := ⟨_, rfl⟩
      obtain ⟨⟨x, t3⟩, hx⟩ : ∃ r, rdS 8 t2 = r := ⟨_, rfl⟩
      obtain ⟨⟨y, t4⟩, hy⟩ : ∃ r, rdS 8 t3 = r := ⟨_, rfl⟩
      obtain ⟨⟨t, t5⟩, ht⟩ : ∃ r, rdW 3 t4 = r := ⟨_, rfl⟩
      have hr : rdFields 2 s1 = ({ blank 2 with cq := IntKind.u16.wrap a, cb := IntKind.u8.wrap b, cdx := IntKind.i8.wrap x, cdy := IntKind.i8.wrap y, ct := IntKind.i64.wrap (IntKind.i64.wrap t + 1) }, t5) := by
        show rdCmd s1 = _
        unfold rdCmd
        simp only [ha, hb, hx, hy, ht]
      have b1 := fun e => (good_W 16).back s1 (by rw [ha]; exact e)
      have b2 := fun e => (good_W 2).back t1 (by rw [hb]; exact e)
      have b3 := fun e => (good_S 8).back t2 (by rw [hx]; exact e)
      have b4 := fun e => (good_S 8).back t3 (by rw [hy]; exact e)
      have b5 := fun e => (good_W 3).back t4 (by rw [ht]; exact e)
      refine (number34_c (k := 16) (by omega) h20').mono ?_
      rintro _ w26 ⟨a', rfl, _, va, r1, f1⟩
      rw [ha] at va r1
      simp only [vcs, eqV, nilV, Option.map_some, Nat.mul_one, implies_true, true_and, and_true, and_self]
      refine stC_one (kO f1 hb20) (by simp [msgC]) rfl fun w28 o2 g2 => ?_
      refine (number34_c (k := 2) (by omega) (kR g2 r1)).mono ?_
      rintro _ w30 ⟨b', rfl, _, vb, r2, f2⟩
      rw [hb] at vb r2
      simp only [vcs, eqV, nilV, Option.map_some, Nat.mul_one, implies_true, true_and, and_true, and_self]
      refine stC_one (kO f2 o2) (by simp [msgC]) rfl fun w32 o3 g3 => ?_
      refine (signed56_c (k := 8) (.inl rfl) (kR g3 r2)).mono ?_
      rintro _ w34 ⟨x', rfl, _, vx, r3, f3⟩
      rw [hx] at vx r3
      simp only [vcs, eqV, nilV, Option.map_some, Nat.mul_one, implies_true, true_and, and_true, and_self]
      refine stC_one (kO f3 o3) (by simp [msgC]) rfl fun w36 o4 g4 => ?_
      refine (signed56_c (k := 8) (.inl rfl) (kR g4 r3)).mono ?_
      rintro _ w38 ⟨y', rfl, _, vy, r4, f4⟩
      rw [hy] at vy r4
      simp only [vcs, eqV, nilV, Option.map_some, Nat.mul_one, implies_true, true_and, and_true, and_self]
      refine stC_one (kO f4 o4) (by simp [msgC]) rfl fun w40 o5 g5 => ?_
      refine (number34_c (k := 3) (by omega) (kR g5 r4)).mono ?_
      rintro _ w42 ⟨t', rfl, ht', vt, r5, f5⟩
      rw [ht] at vt r5
      simp only [vcs, eqV, nilV, Option.map_some, Nat.mul_one, implies_true, true_and, and_true, and_self]
      refine stC_one (kO f5 o5) (by simp [msgC]) rfl fun w44 o6 g6 => ?_
      refine plain (m := { blank 2 with cq := IntKind.u16.wrap a', cb := IntKind.u8.wrap b', cdx := IntKind.i8.wrap x', cdy := IntKind.i8.wrap y', ct := IntKind.i64.wrap (t' + 1) }) (by omega) (by omega) hr rfl o6 (kR g6 r5) (fun e => ?_) (((((((((nO f1).trans (nX g2)).trans (nO f2)).trans (nX g3)).trans (nO f3)).trans (nX g4)).trans (nO f4)).trans (nX g5)).trans (nO f5) |>.trans (nX g6))
      have e4 := b5 e
      have e3 := b4 e4
      have e2 := b3 e3
      have e1 := b2 e2
      have ht2 : IntKind.i64.wrap t' = t' := w64 (by omega)
      dsimp only at va vb vx vy vt
      have vt' := vt e4
      subst vt'
      rw [va (b1 e1), vb e1, vx e2, vy e3, ht2]
    refine br_dec (fun k3 => ?_) (fun k3 => ?_)
    · subst k3
      have h20' := h20
      rw [(kn (by omega) (by omega)).1] at h20'
      obtain ⟨⟨a, t1⟩, ha⟩ : ∃ r, rdW 16 s1 = r := ⟨_, rfl⟩
      obtain ⟨⟨b, t2⟩, hb⟩ : ∃ r, rdW 1 t1 = r := ⟨_, rfl⟩
      obtain ⟨⟨x, t3⟩, hx⟩ : ∃ r, stepV 18 65536 t2 = r := ⟨_, rfl⟩
      obtain ⟨⟨y, t4⟩, hy⟩ : ∃ r, stepV 18 65536 t3 = r := ⟨_, rfl⟩
      obtain ⟨⟨z, t5⟩, hz⟩ : ∃ r, stepV 18 65536 t4 = r := ⟨_, rfl⟩
      have hr : rdFields 3 s1 = ({ blank 3 with prov := IntKind.u16.wrap a, shot := IntKind.i64.wrap b, d0 := x, d1 := y, d2 := z }, t5) := by
        show rdFire s1 = _
        unfold rdFire
        simp only [ha, hb, hx, hy, hz]
      have b1 := fun e => (good_W 16).back s1 (by rw [ha]; exact e)
      have b2 := fun e => (good_W 1).back t1 (by rw [hb]; exact e)
      have b3 := fun e => (good_V 18 65536).back t2 (by rw [hx]; exact e)
      have b4 := fun e => (good_V 18 65536).back t3 (by rw [hy]; exact e)
      have b5 := fun e => (good_V 18 65536).back t4 (by rw [hz]; exact e)
      refine (number34_c (k := 16) (by omega) h20').mono ?_
      rintro _ w26 ⟨a', rfl, _, va, r1, f1⟩
      rw [ha] at va r1
      simp only [vcs, eqV, nilV, Option.map_some, Nat.mul_one, implies_true, true_and, and_true, and_self]
      refine stC_one (kO f1 hb20) (by simp [msgC]) rfl fun w28 o2 g2 => ?_
      refine (number34_c (k := 1) (by omega) (kR g2 r1)).mono ?_
      rintro _ w30 ⟨b', rfl, hb', vb, r2, f2⟩
      rw [hb] at vb r2
      simp only [vcs, eqV, nilV, Option.map_some, Nat.mul_one, implies_true, true_and, and_true, and_self]
      refine stC_one (kO f2 o2) (by simp [msgC]) rfl fun w32 o3 g3 => ?_
      refine (vec57_c (k := 18) (d := 65536) (by omega) (by unfold I64; omega) (kR g3 r2)).mono ?_
      rintro _ w34 ⟨x', y', z', rfl, vx, vy, vz, r3, f3⟩
      rw [hx] at vx vy vz r3
      dsimp only at vx vy vz r3
      rw [hy] at vy vz r3
      dsimp only at vy vz r3
      rw [hz] at vz r3
      dsimp only at vz r3
      refine rd_of (v := ()) rfl ?_
      refine stC_at (vs := [.int .i64 x', .int .i64 y', .int .i64 z']) (kO f3 o3) (by simp [msgC]) (by intro v hv; simp at hv; rcases hv with rfl | rfl | rfl <;> rfl) fun w36 o4 g4 => ?_
      have hb2 : IntKind.i64.wrap b' = b' := w64 (by omega)
      refine plain (m := { blank 3 with prov := IntKind.u16.wrap a', shot := b', d0 := x', d1 := y', d2 := z' }) (by omega) (by omega) hr rfl o4 (kR g4 r3) (fun e => ?_) ((((((nO f1).trans (nX g2)).trans (nO f2)).trans (nX g3)).trans (nO f3)).trans (nX g4))
      have e4 := b5 e
      have e3 := b4 e4
      have e2 := b3 e3
      have e1 := b2 e2
      dsimp only at va vb
      have vb' := vb e1
      subst vb'
      rw [va (b1 e1), hb2, vx e2, vy e3, vz e4]
    refine br_dec (fun k5 => ?_) (fun k5 => ?_)
    · subst k5
      have h20' := h20
      rw [(kn (by omega) (by omega)).1] at h20'
      have hr : rdFields 5 s1 = ({ blank 5 with id := (rdId s1).1 }, (rdId s1).2) := rfl
      refine (id58_c h20').mono ?_
      rintro _ w26 ⟨a', rfl, _, va, r1, f1⟩
      simp only [vcs, eqV, nilV, Option.map_some, Nat.mul_one, implies_true, true_and, and_true, and_self]
      refine stC_one (kO f1 hb20) (by simp [msgC]) rfl fun w28 o2 g2 => ?_
      refine plain (m := { blank 5 with id := a' }) (by omega) (by omega) hr rfl o2 (kR g2 r1) (fun e => ?_) ((nO f1).trans (nX g2))
      rw [va (good_Id.back _ e)]
    refine br_dec (fun k6 => ?_) (fun k6 => ?_)
    · subst k6
      have h20' := h20
      rw [(kn (by omega) (by omega)).1] at h20'
      obtain ⟨⟨a, t1⟩, ha⟩ : ∃ r, rdW 16 s1 = r := ⟨_, rfl⟩
      obtain ⟨⟨x, t3⟩, hx⟩ : ∃ r, stepV 32 (-1) t1 = r := ⟨_, rfl⟩
      obtain ⟨⟨y, t4⟩, hy⟩ : ∃ r, stepV 32 (-1) t3 = r := ⟨_, rfl⟩
      obtain ⟨⟨z, t5⟩, hz⟩ : ∃ r, stepV 32 (-1) t4 = r := ⟨_, rfl⟩
      obtain ⟨⟨x2, t6⟩, hx2⟩ : ∃ r, stepV 32 (-1) t5 = r := ⟨_, rfl⟩
      obtain ⟨⟨y2, t7⟩, hy2⟩ : ∃ r, stepV 32 (-1) t6 = r := ⟨_, rfl⟩
      obtain ⟨⟨z2, t8⟩, hz2⟩ : ∃ r, stepV 32 (-1) t7 = r := ⟨_, rfl⟩
      have hr : rdFields 6 s1 = ({ blank 6 with seq := IntKind.u16.wrap a, p0 := x, p1 := y, p2 := z, v0 := x2, v1 := y2, v2 := z2 }, t8) := by
        show rdMoved s1 = _
        unfold rdMoved
        simp only [ha, hx, hy, hz, hx2, hy2, hz2]
      have gv := good_V 32 (-1)
      have b1 := fun e => (good_W 16).back s1 (by rw [ha]; exact e)
      have b3 := fun e => gv.back t1 (by rw [hx]; exact e)
      have b4 := fun e => gv.back t3 (by rw [hy]; exact e)
      have b5 := fun e => gv.back t4 (by rw [hz]; exact e)
      have b6 := fun e => gv.back t5 (by rw [hx2]; exact e)
      have b7 := fun e => gv.back t6 (by rw [hy2]; exact e)
      have b8 := fun e => gv.back t7 (by rw [hz2]; exact e)
      refine (number34_c (k := 16) (by omega) h20').mono ?_
      rintro _ w26 ⟨a', rfl, _, va, r1, f1⟩
      rw [ha] at va r1
      simp only [vcs, eqV, nilV, Option.map_some, Nat.mul_one, implies_true, true_and, and_true, and_self]
      refine stC_one (kO f1 hb20) (by simp [msgC]) rfl fun w28 o2 g2 => ?_
      refine (vec57_c (k := 32) (d := -1) (by omega) (by unfold I64; omega) (kR g2 r1)).mono ?_
      rintro _ w34 ⟨x', y', z', rfl, vx, vy, vz, r3, f3⟩
      rw [hx] at vx vy vz r3
      dsimp only at vx vy vz r3
      rw [hy] at vy vz r3
      dsimp only at vy vz r3
      rw [hz] at vz r3
      dsimp only at vz r3
      refine rd_of (v := ()) rfl ?_
      refine stC_at (vs := [.int .i64 x', .int .i64 y', .int .i64 z']) (kO f3 o2) (by simp [msgC]) (by intro v hv; simp at hv; rcases hv with rfl | rfl | rfl <;> rfl) fun w36 o4 g4 => ?_
      refine (vec57_c (k := 32) (d := -1) (by omega) (by unfold I64; omega) (kR g4 r3)).mono ?_
      rintro _ w38 ⟨x'', y'', z'', rfl, ux, uy, uz, r4, f4⟩
      rw [hx2] at ux uy uz r4
      dsimp only at ux uy uz r4
      rw [hy2] at uy uz r4
      dsimp only at uy uz r4
      rw [hz2] at uz r4
      dsimp only at uz r4
      refine rd_of (v := ()) rfl ?_
      refine stC_at (vs := [.int .i64 x'', .int .i64 y'', .int .i64 z'']) (kO f4 o4) (by simp [msgC]) (by intro v hv; simp at hv; rcases hv with rfl | rfl | rfl <;> rfl) fun w40 o5 g5 => ?_
      refine plain (m := { blank 6 with seq := IntKind.u16.wrap a', p0 := x', p1 := y', p2 := z', v0 := x'', v1 := y'', v2 := z'' }) (by omega) (by omega) hr rfl o5 (kR g5 r4) (fun e => ?_) ((((((nO f1).trans (nX g2)).trans (nO f3)).trans (nX g4)).trans (nO f4)).trans (nX g5))
      have e7 := b8 e
      have e6 := b7 e7
      have e5 := b6 e6
      have e4 := b5 e5
      have e3 := b4 e4
      have e1 := b3 e3
      rw [va (b1 e1), vx e1, vy e3, vz e4, ux e5, uy e6, uz e7]
    refine br_dec (fun k7 => ?_) (fun k7 => ?_)
    · subst k7
      have h20' := h20
      rw [(kn (by omega) (by omega)).1] at h20'
      obtain ⟨⟨a, t1⟩, ha⟩ : ∃ r, rdW 16 s1 = r := ⟨_, rfl⟩
      have hr : rdFields 7 s1 = ({ blank 7 with prov := IntKind.u16.wrap a, id := (rdId t1).1 }, (rdId t1).2) := by
        show rdBound s1 = _
        unfold rdBound
        simp only [ha]
      have b1 := fun e => (good_W 16).back s1 (by rw [ha]; exact e)
      refine (number34_c (k := 16) (by omega) h20').mono ?_
      rintro _ w26 ⟨a', rfl, _, va, r1, f1⟩
      rw [ha] at va r1
      simp only [vcs, eqV, nilV, Option.map_some, Nat.mul_one, implies_true, true_and, and_true, and_self]
      refine stC_one (kO f1 hb20) (by simp [msgC]) rfl fun w28 o2 g2 => ?_
      refine (id58_c (kR g2 r1)).mono ?_
      rintro _ w30 ⟨b', rfl, _, vb, r2, f2⟩
      simp only [vcs, eqV, nilV, Option.map_some, Nat.mul_one, implies_true, true_and, and_true, and_self]
      refine stC_one (kO f2 o2) (by simp [msgC]) rfl fun w32 o3 g3 => ?_
      refine plain (m := { blank 7 with prov := IntKind.u16.wrap a', id := b' }) (by omega) (by omega) hr rfl o3 (kR g3 r2) (fun e => ?_) ((((nO f1).trans (nX g2)).trans (nO f2)).trans (nX g3))
      have e1 := good_Id.back _ e
      rw [va (b1 e1), vb e1]
    refine br_dec (fun k8 => ?_) (fun k8 => ?_)
    · subst k8
      have h20' := h20
      rw [(kn (by omega) (by omega)).1] at h20'
      obtain ⟨⟨a, t1⟩, ha⟩ : ∃ r, rdW 16 s1 = r := ⟨_, rfl⟩
      obtain ⟨⟨b, t2⟩, hb⟩ : ∃ r, rdW 4 t1 = r := ⟨_, rfl⟩
      have hr : rdFields 8 s1 = ({ blank 8 with prov := IntKind.u16.wrap a, why := IntKind.i64.wrap b }, rdF (decide (1 ≤ IntKind.i64.wrap b) && decide (IntKind.i64.wrap b ≤ 10)) t2) := by
        show rdDenied s1 = _
        unfold rdDenied
        simp only [ha, hb]
      have b1 := fun e => (good_W 16).back s1 (by rw [ha]; exact e)
      have b2 := fun e => (good_W 4).back t1 (by rw [hb]; exact e)
      refine (number34_c (k := 16) (by omega) h20').mono ?_
      rintro _ w26 ⟨a', rfl, _, va, r1, f1⟩
      rw [ha] at va r1
      simp only [vcs, eqV, nilV, Option.map_some, Nat.mul_one, implies_true, true_and, and_true, and_self]
      refine stC_one (kO f1 hb20) (by simp [msgC]) rfl fun w28 o2 g2 => ?_
      refine (number34_c (k := 4) (by omega) (kR g2 r1)).mono ?_
      rintro _ w30 ⟨b', rfl, hb', vb, r2, f2⟩
      rw [hb] at vb r2
      simp only [vcs, eqV, nilV, Option.map_some, Nat.mul_one, implies_true, true_and, and_true, and_self]
      have hbw : IntKind.i64.wrap b' = b' := w64 (by omega)
      have go : ∀ ok : Bool, ok = (decide (1 ≤ b') && decide (b' ≤ 10)) → callV Tryd.prog 58 [.pointer (some ⟨R, 0, none⟩), .bool ok] w30 fun _ w96 => stC w96 ⟨O, 13, none⟩ [.int .i64 b'] fun w97 => MsO w w20 R O 8 s1 w97 := by
        intro ok hok
        refine (must35_c (ok' := decide (1 ≤ IntKind.i64.wrap b) && decide (IntKind.i64.wrap b ≤ 10)) (fun e => ?_) r2).mono ?_
        · have vb' : b' = b := vb (b2 e)
          subst vb'
          rw [hok, hbw]
        rintro _ w96 ⟨-, r3, f3⟩
        refine stC_one (kO f3 (kO f2 o2)) (by simp [msgC]) rfl fun w97 o4 g4 => ?_
        refine plain (m := { blank 8 with prov := IntKind.u16.wrap a', why := b' }) (by omega) (by omega) hr rfl o4 (kR g4 r3) (fun e => ?_) (((((nO f1).trans (nX g2)).trans (nO f2)).trans (nO f3)).trans (nX g4))
        have e2 := (rdF_inv e).2.1
        have e1 := b2 e2
        have vb' : b' = b := vb e1
        subst vb'
        rw [va (b1 e1), hbw]
      refine br_dec (fun h1 => go _ (by rw [decide_eq_true h1]; rfl)) (fun h1 => go false (by rw [decide_eq_false h1]; rfl))
    refine br_dec (fun k9 => ?_) (fun k9 => ?_)
    · subst k9
      have h20' := h20
      rw [(kn (by omega) (by omega)).1] at h20'
      obtain ⟨⟨a, t1⟩, ha⟩ : ∃ r, rdW 32 s1 = r := ⟨_, rfl⟩
      obtain ⟨⟨b, t2⟩, hb⟩ : ∃ r, rdW 32 t1 = r := ⟨_, rfl⟩
      obtain ⟨⟨nn, t3⟩, hn⟩ : ∃ r, rdW 10 t2 = r := ⟨_, rfl⟩
      have hr : rdFields 9 s1 = ({ blank 9 with tick := IntKind.u32.wrap a, bse := IntKind.u32.wrap b, bytes := (rdB nn.toNat t3 []).1 }, (rdB nn.toNat t3 []).2) := by
        show rdSnap s1 = _
        unfold rdSnap
        simp only [ha, hb, hn]
      have b1 := fun e => (good_W 32).back s1 (by rw [ha]; exact e)
      have b2 := fun e => (good_W 32).back t1 (by rw [hb]; exact e)
      have b3 := fun e => (good_W 10).back t2 (by rw [hn]; exact e)
      refine (number34_c (k := 32) (by omega) h20').mono ?_
      rintro _ w26 ⟨a', rfl, _, va, r1, f1⟩
      rw [ha] at va r1
      simp only [vcs, eqV, nilV, Option.map_some, Nat.mul_one, implies_true, true_and, and_true, and_self]
      refine stC_one (kO f1 hb20) (by simp [msgC]) rfl fun w28 o2 g2 => ?_
      refine (number34_c (k := 32) (by omega) (kR g2 r1)).mono ?_
      rintro _ w30 ⟨b', rfl, _, vb, r2, f2⟩
      rw [hb] at vb r2
      simp only [vcs, eqV, nilV, Option.map_some, Nat.mul_one, implies_true, true_and, and_true, and_self]
      refine stC_one (kO f2 o2) (by simp [msgC]) rfl fun w32 o3 g3 => ?_
      refine (number34_c (k := 10) (by omega) (kR g3 r2)).mono ?_
      rintro _ w112 ⟨n', rfl, hn', vn, r3, f3⟩
      rw [hn] at vn r3
      simp only [vcs, eqV, nilV, Option.map_some, Nat.mul_one, implies_true, true_and, and_true, and_self]
      obtain ⟨n0, hn0⟩ : ∃ n0 : Nat, n' = n0 := ⟨n'.toNat, by omega⟩
      subst hn0
      have hn1024 : (n0 : Int) < 1024 := hn'.2
      have hnn : rdB nn.toNat t3 [] = rdB n0 t3 [] := by
        by_cases e : t3.e = 0
        · have hv : (n0 : Int) = nn := vn (b3 e)
          rw [← hv, Int.toNat_natCast]
        · rw [rdB_stop e, rdB_stop e]
      rw [hnn] at hr
      have hF112 : Fm (fun i => i = R ∨ w.heap.size < i) w20 w112 := ((((nO f1).trans (nX g2)).trans (nO f2)).trans (nX g3)).trans (nO f3)
      have hs112 := hF112.size
      refine ⟨fun u w' => ∃ (i : Nat) (s' : RS) (acc : List Int) (q : Option Addr) (cq : Nat), u 6 = .int .i64 i ∧ RefAt w' R s' ∧ w'.heap[O]? = some (.cells (msgC { blank 9 with tick := IntKind.u32.wrap a', bse := IntKind.u32.wrap b', bytes := acc } q cq).toArray 53 (0, 0)) ∧
        w'.ownsRow w.heap.size 5 1 (.slice q acc.length cq) acc.length (acc.map (Value.int .u8)) ∧ (∀ y ∈ acc, 0 ≤ y ∧ y < 256) ∧ Fm (fun i => i = R ∨ w.heap.size < i) w20 w' ∧ acc.length = i ∧ i ≤ n0 ∧ rdB (n0 - i) s' acc = rdB n0 t3 [], fun u _ => n0 - (intOf (u 6)).toNat, ?_, ?_⟩
      · exact ⟨0, t3, [], none, 0, rfl, r3, kO f3 o3, own_nil _ _, by simp, hF112, rfl, by omega, rfl⟩
      rintro u w113 ⟨i, s', acc, q, cq, h6', hr', ho, hown, hrng, hF, hai, hin, hgo⟩
      change u 6 = _ at h6'
      simp only [h6', vcs, eqV, nilV, Option.map_some, Nat.mul_one, implies_true, true_and, and_true, and_self]
      obtain ⟨remx, hRx, hRx0, hRx1, hRx2⟩ := id hr'
      have done : rdB n0 t3 [] = (acc, s') → MsO w w20 R O 9 s1 w113 := by
        intro hd
        rw [hd] at hr
        refine ⟨_, q, cq, ho, ?_, ?_, hown, hrng, hF⟩
        · rw [(kn (by omega) (by omega)).2, hr]; exact hr'
        · rw [(kn (by omega) (by omega)).2, hr]
          intro e
          have e3 : t3.e = 0 := rdB_e0 n0 t3 [] (by rw [hd]; exact e)
          have e2 := b3 e3
          have e1 := b2 e2
          dsimp only at va vb
          rw [va (b1 e1), vb e1]
      refine br_dec (fun hlt => ?_) (fun hlt => done (by rw [← hgo, show n0 - i = 0 by omega]; rfl))
      simp only [addr_add, Nat.zero_add]
      refine rd_of (v := .int .i64 s'.e) (cellOf hRx rfl) ?_
      simp only [vcs, eqV, nilV, Option.map_some, Nat.mul_one, implies_true, true_and, and_true, and_self]
      refine br_dec (fun he => ?_) (fun he => done (by rw [← hgo]; exact rdB_stop he))
      obtain ⟨z, hz⟩ : ∃ z, n0 - i = z + 1 := ⟨n0 - i - 1, by omega⟩
      rw [hz] at hgo
      rw [rdB, if_pos he] at hgo
      refine (number34_c (k := 8) (by omega) hr').mono ?_
      rintro _ w117 ⟨y, rfl, hy, vy, r5, f5⟩
      have vy' := vy he
      rw [← vy'] at hgo
      simp only [vcs, eqV, nilV, Option.map_some, Nat.mul_one, implies_true, true_and, and_true, and_self]
      have hyw : IntKind.u8.wrap y = y := by simp only [IntKind.wrap, IntKind.bits, IntKind.signed]; simp; omega
      rw [hyw] at hgo ⊢
      have ho5 := kO f5 ho
      refine rd_of (v := .slice q acc.length cq) (cellOf ho5 rfl) ?_
      simp only [vcs, eqV, nilV, Option.map_some, Nat.mul_one, implies_true, true_and, and_true, and_self]
      have kslR : ∀ {w' : World} {c : Array Value} {t b : Nat}, w'.heap[b]? = some (.cells c t (0, 0)) → t ≠ 5 → w'.ownsRow w.heap.size 5 1 (.slice q acc.length cq) acc.length (acc.map (Value.int .u8)) → ¬ (Value.slice q acc.length cq).ownBlock = some b := by
        intro w' c t b hb ht ho e
        obtain ⟨_, cur, hc⟩ := own_block ho e
        rw [hb] at hc; cases hc; exact ht rfl
      have hown5 := f5.owns hown fun b hb e => kslR hRx (by decide) hown (by rw [← e]; exact hb)
      have hs117 := f5.size
      have hs113 := hF.size
      have hOl := lt_of_blk ho5
      refine append_1 (by rw [row25]) row5 rfl rfl hown5 (by omega) (by simp only [maxLen]; omega) (by omega) fun v w122 hv hf => ?_
      have hv2 : w122.ownsRow w.heap.size 5 1 v (acc ++ [y]).length ((acc ++ [y]).map (Value.int .u8)) := by rw [List.length_append, List.map_append]; exact hv
      obtain ⟨q4, c4, rfl, -⟩ := own_read hv2
      simp only [vcs, eqV, nilV, Option.map_some, Nat.mul_one, implies_true, true_and, and_true, and_self]
      obtain ⟨remy, hRy, hRy3⟩ := id r5
      have ho122 := hf.keep ho5 (kslR ho5 (by decide) hown5)
      refine stC_one ho122 (by simp [msgC]) rfl fun w127 o6 g6 => ?_
      change w127.heap[O]? = some (.cells (msgC { blank 9 with tick := IntKind.u32.wrap a', bse := IntKind.u32.wrap b', bytes := acc ++ [y] } q4 c4).toArray 53 (0, 0)) at o6
      refine ⟨⟨i + 1, (rdW 8 s').2, acc ++ [y], q4, c4, ?_, (r5.keep hf (kslR hRy (by decide) hown5)).keep g6 hRO, o6, g6.owns hv2 fun b hb e => ?_, ?_, ?_, by simp [hai], by omega, ?_⟩, ?_⟩
      · show Value.int _ _ = _
        rw [w64 (by omega)]; rfl
      · obtain ⟨_, cur, hc⟩ := own_block hv2 hb
        rw [e, ho122] at hc; cases hc
      · intro x hx
        rcases List.mem_append.1 hx with h | h
        · exact hrng x h
        · simp at h; subst h; exact ⟨hy.1, hy.2⟩
      · refine ((hF.trans (nO f5)).trans' hf fun b hb e => ?_).trans (nX g6)
        have h1 := (own_block hown5 e).1
        have h2 := kslR (f5.keep (hF.keep hA20 (by omega)) (by omega)) (by decide) hown5
        have h3 : b ≠ A := fun e' => h2 (by rw [← e']; exact e)
        exact .inr (by omega)
      · rw [show n0 - (i + 1) = z by omega]; exact hgo
      · show n0 - (IntKind.i64.wrap ((i : Int) + 1)).toNat < n0 - ((i : Nat) : Int).toNat
        rw [w64 (by omega)]; omega
    · have hr : rdFields k s1 = (blank k, s1) := by
        unfold rdFields
        rw [if_neg k2, if_neg k3, if_neg k6, if_neg k7, if_neg k5, if_neg k8, if_neg k9]
      refine ⟨blank k, none, 0, hb20, ?_, fun _ => by rw [hr], own_nil _ _, by simp [blank], Fm.refl _ _⟩
      rw [hr]; exact h20
  · rintro - w143 ⟨m, q, c, ho, hr, hm, hown, hrng, hf⟩
    have hOA : O ≠ A := by omega
    have hA143 := hf.keep hA20 (by omega)
    refine rd_of (v := msgC m q c) (cells_all ho rfl) ?_
    refine rd_of (v := ()) rfl ?_
    refine stC_all hA143 rfl msgC_one fun w146 hb146 hf146 => ?_
    refine rd_of (v := msgC m q c) (cells_all hb146 rfl) ?_
    refine ⟨m, q, c, rfl, hr.keep hf146 (by omega), hm, (by
      rw [hA]
      refine hf146.owns hown fun i hi e => ?_
      obtain ⟨_, cur, hc⟩ := own_block hown hi
      rw [e, hA143] at hc; cases hc), hrng, ?_⟩
    · exact (hF20.trans' hf (by rintro i hi (e | e); exact e; omega)).trans' hf146 (by rintro i hi rfl; omega)
end Go.Proofs.YtipikchkbmgloaaDoor
namespace Go.Proofs.YtipikchkbmgloaaDoor
set_option linter.unusedSimpArgs false
set_option linter.unusedVariables false
open Go Go.RowKit VC
variable {w : World} {R : Nat} {s : RS}
theorem own_base {w : World} {base base' : Nat} {e : TypeId} {size n : Nat} {v : Value} {xs : List Value} (h : w.ownsRow base e size v n xs) (hb : base' ≤ base) : w.ownsRow base' e size v n xs := by
  obtain ⟨h1, h2⟩ := h
  refine ⟨h1, ?_⟩
  rcases h2 with h2 | ⟨g, cap, cur, hv, hg, hr⟩
  · exact .inl h2
  · exact .inr ⟨g, cap, cur, hv, Nat.le_trans hb hg, hr⟩
set_option maxRecDepth 20000 in
theorem rest37_c {bs : List Int} (hb : ∀ b ∈ bs, Bit b) (hl : bs.length ≤ 1000000) : callV Tryd.prog 60 [.string (txt bs)] w fun v w' => v = .bool (restOk bs) ∧ Fm none' w w' := by
  refine vc60 _ w _ ?_
  refine ⟨fun u w' => ∃ j : Nat, j ≤ bs.length ∧ u 3 = .int .i64 (j : Int) ∧ (∀ b ∈ bs.take j, b = 0) ∧ w' = w, fun u _ => bs.length - (intOf (u 3)).toNat, ⟨0, by omega, rfl, by simp, rfl⟩, ?_⟩
  rintro u w5 ⟨j, hj, h3', hz, rfl⟩
  change u 3 = .int .i64 (j : Int) at h3'
  simp only [h3', vcs, eqV, nilV, Option.map_some, Nat.mul_one, implies_true, true_and, and_true, and_self, txt_size]
  refine br_dec (fun hjn => ?_) (fun hjn => ?_)
  · obtain ⟨b, hb'⟩ : ∃ b, bs[j]? = some b := ⟨bs[j]'(by omega), by simp⟩
    refine index_str (ys := bs.map (48 + ·)) (j := j) (by rw [row9]) (txt_r hb) (by rw [List.getElem?_map, hb']; rfl) ?_
    simp only [vcs, eqV, nilV, Option.map_some, Nat.mul_one, implies_true, true_and, and_true, and_self]
    refine br_ndec (fun he => ?_) (fun he => ?_)
    · refine ⟨?_, Fm.refl _ _⟩
      have : (bs.all fun b => decide (b = 0)) = false := by
        rw [List.all_eq_false]
        exact ⟨b, List.mem_of_getElem? hb', by simp; omega⟩
      unfold restOk; rw [this]; rfl
    · rw [w64 (by omega)]
      refine ⟨⟨j + 1, by omega, ?_, ?_, rfl⟩, ?_⟩
      · show Value.int .i64 _ = _
        congr 1
      · rw [List.take_add_one, hb']
        intro x hx
        rcases List.mem_append.1 hx with hx | hx
        · exact hz x hx
        · simp at hx; omega
      · show bs.length - ((j : Int) + 1).toNat < bs.length - ((j : Nat) : Int).toNat; omega
  · have : j = bs.length := by omega
    subst this
    rw [List.take_length] at hz
    have : (bs.all fun b => decide (b = 0)) = true := by
      rw [List.all_eq_true]
      intro b hb; simp [hz b hb]
    refine ⟨?_, Fm.refl _ _⟩
    unfold restOk; rw [this, Bool.true_and]
    congr 1
    rw [decide_eq_decide]; omega
theorem build_noneS {P : Program} {w : World} {t e : TypeId} {k : K} {b size : Nat} {z : Value} {KK : Value → World → Prop} (ht : (row P t).k = .slice e) (he : row P e = ⟨k, size, b, some z⟩)
    (kk : ∀ s w', w'.ownsRow w.heap.size e size s 0 [] → w.heap.size < w'.heap.size → Fm none' w w' → KK s w') : runs P (Instr.buildSlice t 0 #[]) w KK := by
  obtain ⟨i, hi, hz, hsz, hbt⟩ := info_of_row he
  have hu := slice_of_row ht
  have hr : Array.range 0 = #[] := rfl
  have hbuild : (Instr.buildSlice t 0 #[]).run P w = .ok (.slice (some ⟨w.heap.size, 0, none⟩) 0 0) (w.alloc (.cells #[] e)) := by
    simp [Instr.buildSlice, run_underlying hu, run_size hi, hsz, run_zero hi hz, Instr.fill, newRow, hr]
  refine ⟨_, _, hbuild, kk _ _ ⟨by simp, .inr ⟨_, 0, #[], rfl, Nat.le_refl _, by simpa using heap_alloc_new w (.cells #[] e), Nat.le_refl _, by simp [maxLen], by simp, by simp⟩⟩ (by simp) (Fm.alloc w _)⟩
set_option maxRecDepth 20000 in
set_option maxHeartbeats 4000000 in
theorem decode19_c {ys : List Int} (hy : ∀ y ∈ ys, 0 ≤ y ∧ y < 256) (hl : ys.length ≤ 10000) :
    callV Tryd.prog 31 [.string (strOfNums ys)] w fun v w' => ∃ sv, v = .tuple #[sv, .int .i64 (decodeM ys).2] ∧ OwnMsgs w' w.heap.size sv (decodeM ys).1 ∧ Fm none' w w' := by
  refine vc31 _ w _ ?_
  refine (of33_c hy (by omega)).mono ?_
  rintro _ w1 ⟨rfl, hf1⟩
  simp only [vcs, eqV, nilV, Option.map_some, Nat.mul_one, implies_true, true_and, and_true, and_self]
  refine allocC_of fun w4 hb4 hs4 hf4 => ?_
  obtain ⟨A, hA⟩ : ∃ A, A = w1.heap.size := ⟨_, rfl⟩
  rw [← hA] at hb4 ⊢
  have hws := hf1.size
  have hbl : (byteBits ys).length ≤ 1000000 := by rw [byteBits_length]; omega
  have hbit := byteBits_bit ys
  have hr4 : RefAt w4 A ⟨byteBits ys, 0⟩ := ⟨byteBits ys, hb4, fun _ => rfl, hbit, hbl⟩
  have hF4 : Fm none' w w4 := hf1.trans hf4
  refine (number34_c (k := 5) (by omega) hr4).mono ?_
  rintro _ w6 ⟨n, rfl, hnr, hnv, hr6, hf6⟩
  simp only [vcs, eqV, nilV, Option.map_some, Nat.mul_one, implies_true, true_and, and_true, and_self]
  have hnv := hnv rfl
  obtain ⟨⟨n', s1⟩, hn⟩ : ∃ r, rdW 5 (⟨byteBits ys, 0⟩ : RS) = r := ⟨_, rfl⟩
  rw [hn] at hnv hr6
  have hnv : n = n' := hnv
  subst hnv
  have hF6 : Fm none' w w6 := hF4.trans' hf6 (by rintro i hi e; omega)
  refine (must35_c (ok' := decide (n ≤ 16)) (fun _ => rfl) hr6).mono ?_
  rintro _ w9 ⟨-, hr9, hf9⟩
  have hF9 : Fm none' w w9 := hF6.trans' hf9 (by rintro i hi e; omega)
  obtain ⟨s2, hs2⟩ : ∃ s2, s2 = rdF (decide (n ≤ 16)) s1 := ⟨_, rfl⟩
  have hs2' : rdF (decide (n ≤ 16)) (n, s1).2 = s2 := hs2.symm
  rw [hs2'] at hr9
  obtain ⟨n0, hn0⟩ : ∃ n0 : Nat, n = n0 := ⟨n.toNat, by omega⟩
  subst hn0
  have hn32 : (n0 : Int) < 32 := hnr.2
  have hdec : decodeM ys = (let r := decGo n0 s2 []
      let s := rdF (restOk r.2.rem && decide (ys.length ≤ 1024)) r.2
      if s.e = 0 then (r.1, 0) else ([], s.e)) := by
    unfold decodeM
    rw [hn, hs2]
    rfl
  refine build_noneS (by rw [row24]) row53 fun s w11 hs11 hlt11 hf11 => ?_
  have hs11' := hs11
  obtain ⟨ps, cs, rfl, -, -⟩ := own_readS hs11'
  simp only [vcs, eqV, nilV, Option.map_some, Nat.mul_one, implies_true, true_and, and_true, and_self]
  have hs9 := hF9.size
  have hs11z := hf11.size
  have hF11 := hF9.trans hf11
  have hr11 := hr9.keep hf11 id
  refine ⟨fun u w' => ∃ (s' : RS) (acc acc' : List Msg) (sv : Value), u 6 = sv ∧ RefAt w' A s' ∧ OwnMsgs w' w.heap.size sv acc' ∧ (s'.e = 0 → acc' = acc) ∧ Fm none' w w' ∧ decGo n0 s2 [] = (acc, s'), ?_, ?_⟩
  · refine ⟨fun u w' => ∃ (s' : RS) (acc acc' : List Msg) (sv : Value), u 6 = sv ∧ RefAt w' A s' ∧ OwnMsgs w' w.heap.size sv acc' ∧ (s'.e = 0 → acc' = acc) ∧ acc'.length = acc.length ∧ Fm none' w w' ∧ acc.length ≤ n0 ∧ decGo (n0 - acc.length) s' acc = decGo n0 s2 [], fun u _ => n0 - lenOf (u 6), ?_, ?_⟩
    · exact ⟨s2, [], [], _, rfl, hr11, ⟨[], rfl, own_base hs11 hs9, by simp⟩, fun _ => rfl, rfl, hF11, by simp, rfl⟩
    rintro u w16 ⟨s', acc, acc', sv, h6, hr, hown, heq, hlen', hF, hlen, hgo⟩
    change u 6 = sv at h6
    have hown' := hown
    obtain ⟨qs, hq1, hq2, hq3⟩ := hown
    obtain ⟨ps, cs, rfl, -, -⟩ := own_readS hq2
    simp only [h6, vcs, eqV, nilV, Option.map_some, Nat.mul_one, implies_true, true_and, and_true, and_self]
    obtain ⟨rem, hR, hR0, hRb, hRl⟩ := id hr
    have hRlt := lt_of_blk hR
    have hws16 := hF.size
    have done : decGo n0 s2 [] = (acc, s') → ∃ (s' : RS) (acc acc' : List Msg) (sv : Value), alist [(6, Value.slice ps acc'.length cs)] 6 = sv ∧ RefAt w16 A s' ∧ OwnMsgs w16 w.heap.size sv acc' ∧ (s'.e = 0 → acc' = acc) ∧ Fm none' w w16 ∧ decGo n0 s2 [] = (acc, s') := fun hd =>
      ⟨s', acc, acc', _, rfl, hr, hown', heq, hF, hd⟩
    have done' : decGo n0 s2 [] = (acc, s') → ∃ (s' : RS) (acc : List Msg) (acc'' : List Msg) (sv : Value), alist [(6, Value.slice ps acc'.length cs)] 6 = sv ∧ RefAt w16 A s' ∧ OwnMsgs w16 w.heap.size sv acc'' ∧ (s'.e = 0 → acc'' = acc) ∧ Fm none' w w16 ∧ decGo n0 s2 [] = (acc, s') := fun hd =>
      ⟨s', acc, acc', _, rfl, hr, hown', heq, hF, hd⟩
    refine br_dec (fun hjn => ?_) (fun hjn => ?_)
    · refine rd_of (v := .int .i64 s'.e) (cellOf hR rfl) ?_
      simp only [vcs, eqV, nilV, Option.map_some, Nat.mul_one, implies_true, true_and, and_true, and_self]
      refine br_dec (fun he => ?_) (fun he => ?_)
      · obtain ⟨m0, hm0⟩ : ∃ m0, n0 - acc.length = m0 + 1 := ⟨n0 - acc.length - 1, by omega⟩
        rw [hm0] at hgo
        rw [decGo, if_pos he] at hgo
        change decGo m0 (prM s').2 (acc ++ [(prM s').1]) = _ at hgo
        refine (message36_c hr he).mono ?_
        rintro _ w27 ⟨m, q, c, rfl, hr27, hm27, hown27, hrng27, hf27⟩
        refine allocC_of fun w29 hb29 hs29 hf29 => ?_
        refine rd_of (v := ()) rfl ?_
        obtain ⟨B, hB⟩ : ∃ B, B = w27.heap.size := ⟨_, rfl⟩
        rw [← hB] at hb29 ⊢
        refine stC_all (vs := msgC m q c) hb29 rfl msgC_one fun w30 hb30 hf30 => ?_
        refine rd_of (v := msgC m q c) (cells_all hb30 rfl) ?_
        have hs27 := hf27.size
        have hs30 := hf30.size
        have hf30' : Fm (fun i => i = A) w16 w30 := (hf27.trans hf29.none).trans' hf30 (by rintro i hi e; omega)
        have hF30 : Fm none' w w30 := hF.trans' hf30' (by rintro i hi e; omega)
        have hr30 : RefAt w30 A (prM s').2 := (hr27.keep hf29 id).keep hf30 (by omega)
        obtain ⟨remr, hRr, -⟩ := id hr30
        have hO30 : OwnMsgs w30 w.heap.size (.slice ps acc'.length cs) acc' := hown'.keep hf30' (by
          rintro i c t hc _ ht e
          rw [e, hR] at hc; cases hc; rcases ht with h | h <;> cases h)
        have hown30 : w30.ownsRow w.heap.size 5 1 (.slice q m.bytes.length c) m.bytes.length (m.bytes.map (Value.int .u8)) := own_base ((hf29.owns hown27 fun _ _ y => y) |> fun h => hf30.owns h (fun i hi e => by
          obtain ⟨_, cur, hc⟩ := own_block h hi
          rw [e, hb29] at hc; cases hc)) hws16
        obtain ⟨qs', hl', ho', hb'⟩ := hO30
        refine append_S (by rw [row24]) row53 rfl (by omega) (by omega) rfl msgC_one ho' (by omega) (by simp only [maxLen]; omega) (by omega) fun v44 w44 hv44 hf44 hblk => ?_
        obtain ⟨p44, c44, rfl, -⟩ := own_readS hv44
        simp only [vcs, eqV, nilV, Option.map_some, Nat.mul_one, implies_true, true_and, and_true, and_self]
        have hlen1 : (acc' ++ [m]).length = acc'.length + 1 := by simp
        have hlen2 : (acc ++ [(prM s').1]).length = acc.length + 1 := by simp
        have hsl : ∀ i, (Value.slice ps acc'.length cs).ownBlock = some i → ∃ cur, w30.heap[i]? = some (.cells cur 53 (0, 0)) := fun i hi => (own_block ho' hi).2
        have hF44 : Fm none' w w44 := hF30.trans' hf44 (fun i hi e => by have := (own_block ho' e).1; omega)
        refine ⟨⟨(prM s').2, acc ++ [(prM s').1], acc' ++ [m], _, rfl, ?_, ⟨qs' ++ [(q, c)], by simp [hl'], ?_, ?_⟩, ?_, by omega, hF44, by omega, ?_⟩, ?_⟩
        · refine hr30.keep hf44 (fun e => ?_)
          obtain ⟨cur, hc⟩ := hsl _ e
          rw [hRr] at hc; cases hc
        · rw [hlen1, List.zip_append hl'.symm, List.flatMap_append]
          have : [(m, (q, c))].flatMap (fun x : Msg × Option Addr × Nat => msgC x.1 x.2.1 x.2.2) = msgC m q c := by simp
          show w44.ownsRow _ _ _ _ _ (_ ++ [(m, (q, c))].flatMap _)
          rw [this]
          exact hv44
        · intro j m' q' hj hq
          have keep5 : ∀ {q : Option Addr × Nat} {m : Msg}, w30.ownsRow w.heap.size 5 1 (.slice q.1 m.bytes.length q.2) m.bytes.length (m.bytes.map (Value.int .u8)) → w44.ownsRow w.heap.size 5 1 (.slice q.1 m.bytes.length q.2) m.bytes.length (m.bytes.map (Value.int .u8)) := fun h => hf44.owns h fun i hi e => by
            obtain ⟨cur, hc⟩ := hsl _ e
            obtain ⟨_, cur', hc'⟩ := own_block h hi
            rw [hc'] at hc; cases hc
          by_cases hjl : j < acc'.length
          · rw [List.getElem?_append_left hjl] at hj
            rw [List.getElem?_append_left (by omega)] at hq
            exact keep5 (hb' j m' q' hj hq)
          · have hj1 : j = acc'.length := by
              have := (List.getElem?_eq_some_iff.1 hj).1
              simp at this; omega
            subst hj1
            rw [List.getElem?_append_right (by omega)] at hj
            rw [List.getElem?_append_right (by omega)] at hq
            simp at hj
            simp [hl'] at hq
            subst hj hq
            exact keep5 (q := (q, c)) hown30
        · intro e
          rw [heq he, hm27 e]
        · rw [hlen2, show n0 - (acc.length + 1) = m0 by omega]
          exact hgo
        · show n0 - (acc'.length + 1) < n0 - acc'.length; omega
      · have hd : decGo n0 s2 [] = (acc, s') := by
          rw [← hgo]
          cases hz : n0 - acc.length with
          | zero => rfl
          | succ z => rw [decGo, if_neg he]
        exact done' hd
    · have hd : decGo n0 s2 [] = (acc, s') := by
        rw [← hgo, show n0 - acc.length = 0 by omega]; rfl
      exact done' hd
  · rintro u w47 ⟨s', acc, acc', sv, h6, hr, hown, heq, hF, hgo⟩
    change u 6 = sv at h6
    obtain ⟨ps, cs, rfl, -⟩ := hown.at
    simp only [h6, vcs, eqV, nilV, Option.map_some, Nat.mul_one, implies_true, true_and, and_true, and_self, strOfNums_size]
    obtain ⟨rem, hR, hR0, hRb, hRl⟩ := id hr
    have hRlt := lt_of_blk hR
    refine rd_of (v := .string (txt rem)) (cellOf hR rfl) ?_
    simp only [vcs, eqV, nilV, Option.map_some, Nat.mul_one, implies_true, true_and, and_true, and_self]
    refine (rest37_c hRb hRl).mono ?_
    rintro _ w52 ⟨rfl, hf52⟩
    simp only [vcs, eqV, nilV, Option.map_some, Nat.mul_one, implies_true, true_and, and_true, and_self]
    have hdec' := hdec
    rw [hgo] at hdec'
    simp only [] at hdec'
    have go : ∀ ok : Bool, (s'.e = 0 → ok = (restOk s'.rem && decide (ys.length ≤ 1024))) → callV Tryd.prog 58 [.pointer (some ⟨A, 0, none⟩), .bool ok] w52 fun _ w55 => rd (w55.cell? ⟨A, 1, none⟩) fun v56 => isK .i64 v56 fun i57 =>
        br (!decide (i57 = 0)) (rd (w55.drew.cell? ⟨A, 1, none⟩) fun v58 => isK .i64 v58 fun i59 => ∃ sv, Value.tuple #[.slice none 0 0, .int .i64 i59] = .tuple #[sv, .int .i64 (decodeM ys).2] ∧ OwnMsgs w55.drew w.heap.size sv (decodeM ys).1 ∧ Fm none' w w55.drew)
          (∃ sv, Value.tuple #[.slice ps acc'.length cs, .int .i64 0] = .tuple #[sv, .int .i64 (decodeM ys).2] ∧ OwnMsgs w55 w.heap.size sv (decodeM ys).1 ∧ Fm none' w w55) := by
      intro ok hok
      refine (must35_c (ok' := restOk s'.rem && decide (ys.length ≤ 1024)) hok (hr.keep hf52 id)).mono ?_
      rintro _ w55 ⟨-, hr55, hf55⟩
      obtain ⟨rem5, h55, -⟩ := id hr55
      have hF55 : Fm none' w w55 := (hF.trans hf52).trans' hf55 (by rintro i hi e; omega)
      refine rd_of (v := .int .i64 (rdF (restOk s'.rem && decide (ys.length ≤ 1024)) s').e) (cellOf h55 rfl) ?_
      simp only [vcs, eqV, nilV, Option.map_some, Nat.mul_one, implies_true, true_and, and_true, and_self]
      refine br_ndec (fun he => ?_) (fun he => ?_)
      · refine rd_of (v := .int .i64 (rdF (restOk s'.rem && decide (ys.length ≤ 1024)) s').e) (cellOf (w := w55.drew) (b := A) h55 rfl) ?_
        simp only [vcs, eqV, nilV, Option.map_some, Nat.mul_one, implies_true, true_and, and_true, and_self]
        rw [if_neg he] at hdec'
        rw [hdec']
        exact ⟨_, rfl, OwnMsgs.nil _ _, hF55.trans (Fm.drew w55)⟩
      · rw [if_pos he] at hdec'
        rw [hdec']
        have e0 : s'.e = 0 := (rdF_inv he).2.1
        have := heq e0
        subst this
        refine ⟨_, rfl, (hown.keep hf52 fun _ _ _ _ _ _ => id).keep hf55 ?_, hF55⟩
        rintro i c t hc _ ht e
        rw [e, hf52.keep hR id] at hc; cases hc; rcases ht with h | h <;> cases h
    have hrr : s'.e = 0 → restOk rem = restOk s'.rem := fun e => by rw [hR0 e]
    cases hro : restOk rem with
    | true => exact go _ fun e => by rw [← hrr e, hro, Bool.true_and, decide_eq_decide]; omega
    | false => exact go false fun e => by rw [← hrr e, hro]; rfl
theorem dec_bytes {ys : List Int} (hy : ∀ y ∈ ys, 0 ≤ y ∧ y < 256) : ∀ m ∈ (decodeM ys).1, ∀ y ∈ m.bytes, 0 ≤ y ∧ y < 256 := by
  rcases dec_errs ys with h | ⟨h, -⟩
  · have hd : decodeM ys = ((decodeM ys).1, 0) := by rw [← h]
    obtain ⟨h1, -⟩ := enc_dec hy hd
    exact fun m hm => (h1 m hm).ok.bytes
  · rw [h]; intro m hm; cases hm
theorem dec_len {ys : List Int} (hy : ∀ y ∈ ys, 0 ≤ y ∧ y < 256) : (decodeM ys).1.length ≤ 16 := by
  rcases dec_errs ys with h | ⟨h, -⟩
  · have hd : decodeM ys = ((decodeM ys).1, 0) := by rw [← h]
    obtain ⟨-, h2, -⟩ := enc_dec hy hd
    exact h2
  · rw [h]; exact Nat.zero_le _
theorem dec_own {ys : List Int} {p : Option Addr} {n c : Nat} (hn : n = ys.length) (hb : BytesAt w p ys) (hy : ∀ y ∈ ys, 0 ≤ y ∧ y < 256) (hl : ys.length ≤ 1000000) :
    callV Tryd.prog 30 [.slice p n c] w fun v w' => ∃ sv, v = .tuple #[sv, .int .i64 (decodeM ys).2] ∧ OwnMsgs w' w.heap.size sv (decodeM ys).1 ∧ Fm none' w w' := by
  subst hn
  exact decode18_c hb hy hl
end Go.Proofs.YtipikchkbmgloaaDoor
namespace Go.Proofs.YtipikchkbmgloaaDoor
set_option linter.unusedSimpArgs false
set_option linter.unusedVariables false
open Go Go.RowKit VC
variable {w : World}
theorem slice_strH {P : Program} {w : World} {t : TypeId} {ys : List Int} {h : Nat} {kh : IntKind} {K : Value → World → Prop} (ht : (row P t).k = .string) (hh : h ≤ ys.length) (k : K (.string (strOfNums (ys.take h))) w) :
    runs P (Instr.sliceAt t (.string (strOfNums ys)) none (some (.int kh (h : Int))) none) w K := by
  have hu := string_of_row ht
  refine ⟨_, _, ?_, k⟩
  rw [run_sliceAt_string w t _ _ _ _ hu, run_slice_string_h _ _ _ hu kh h (by omega) (by rw [strOfNums_size]; omega), Int.toNat_natCast, extract_str, List.drop_zero]
theorem slice_strL {P : Program} {w : World} {t : TypeId} {ys : List Int} {l : Nat} {kl : IntKind} {K : Value → World → Prop} (ht : (row P t).k = .string) (hh : l ≤ ys.length) (k : K (.string (strOfNums (ys.drop l))) w) :
    runs P (Instr.sliceAt t (.string (strOfNums ys)) (some (.int kl (l : Int))) none none) w K := by
  have hu := string_of_row ht
  refine ⟨_, _, ?_, k⟩
  rw [run_sliceAt_string w t _ _ _ _ hu, run_slice_string_l _ _ _ hu kl l (by omega) (by rw [strOfNums_size]; omega), Int.toNat_natCast, strOfNums_size, extract_str, List.take_length]
theorem valB_zero : ∀ (ys : List Int), (∀ y ∈ ys, 0 ≤ y ∧ y < 256) → (valB ys = 0 ↔ ys = List.replicate ys.length 0) := by
  intro ys
  suffices h : ∀ n (ys : List Int), ys.length = n → (∀ y ∈ ys, 0 ≤ y ∧ y < 256) → (valB ys = 0 ↔ ys = List.replicate n 0) from fun hy => h _ ys rfl hy
  intro n
  induction n with
  | zero => intro ys h _; rw [List.length_eq_zero_iff.1 h]; simp [valB]
  | succ n ih =>
    intro ys h hy
    obtain ⟨l, y, rfl⟩ : ∃ l y, ys = l ++ [y] := ⟨ys.dropLast, ys.getLast (by intro e; rw [e] at h; simp at h), (List.dropLast_concat_getLast _).symm⟩
    have h1 := ih l (by simpa using h) fun z hz => hy z (by simp [hz])
    have h2 := hy y (by simp)
    rw [valB_snoc, List.replicate_succ']
    constructor
    · intro h
      have e1 : valB l = 0 := by omega
      have e2 : y = 0 := by omega
      rw [h1.1 e1, e2]
    · intro h
      have := List.append_inj' h rfl
      have e1 := h1.2 this.1
      have e2 : y = 0 := by simpa using this.2
      rw [e1, e2]; rfl
theorem zero6 {ys : List Int} (hy : ∀ y ∈ ys, 0 ≤ y ∧ y < 256) (hl : 9 ≤ ys.length) : ((ys.take 9).drop 3 = List.replicate 6 0) ↔ ¬ (valB ((ys.take 5).drop 3) ≠ 0 ∨ valB ((ys.take 9).drop 5) ≠ 0) := by
  have e : (ys.take 9).drop 3 = (ys.take 5).drop 3 ++ (ys.take 9).drop 5 := by
    have h1 : (ys.take 9).drop 3 = ((ys.take 9).drop 3).take 2 ++ ((ys.take 9).drop 3).drop 2 := (List.take_append_drop _ _).symm
    rw [h1, List.drop_drop, List.take_drop, List.take_take]
    rfl
  have l1 : ((ys.take 5).drop 3).length = 2 := by rw [List.length_drop, List.length_take]; omega
  have l2 : ((ys.take 9).drop 5).length = 4 := by rw [List.length_drop, List.length_take]; omega
  have z1 := valB_zero ((ys.take 5).drop 3) fun y h => hy y (List.mem_of_mem_take (List.mem_of_mem_drop h))
  have z2 := valB_zero ((ys.take 9).drop 5) fun y h => hy y (List.mem_of_mem_take (List.mem_of_mem_drop h))
  rw [l1] at z1
  rw [l2] at z2
  rw [e, not_or, Decidable.not_not, Decidable.not_not, z1, z2]
  constructor
  · intro h
    exact List.append_inj h (by rw [l1]; rfl)
  · rintro ⟨h1, h2⟩
    rw [h1, h2]; rfl
set_option maxRecDepth 20000 in
set_option maxHeartbeats 2000000 in
theorem decode13_c {ys : List Int} (hy : ∀ y ∈ ys, 0 ≤ y ∧ y < 256) (hl : ys.length ≤ 10000) :
    callV Tryd.prog 13 [.string (strOfNums ys)] w (DecR w (decD ys)) := by
  refine vc13 (strOfNums ys) w _ ?_
  simp only [strOfNums_size]
  refine allocC_of fun w1 hb1 hs1 hf1 => ?_
  have fail : ∀ (e : Int) (w' : World), decD ys = (dgZ, e) → Fm none' w w' → (∃ C, C.size = 5 ∧ w'.heap[w.heap.size]? = some (.cells C 35 (0, 0))) →
      stC w' ⟨w.heap.size, 0, none⟩ [.int .u16 0, .bool false, .int .u16 0, .int .u32 0, .slice none 0 0] fun w2 => rd (cellsAt w2 ⟨w.heap.size, 0, none⟩ 5) fun l => DecR w (decD ys) (.tuple #[.agg l.toArray, .int .i64 e]) w2 := by
    rintro e w' he hf ⟨C, hC, hbx⟩
    refine stC_all hbx (by rw [hC]; rfl) (fun v hv => by simp at hv; rcases hv with rfl | rfl | rfl | rfl | rfl <;> rfl) fun w2 hb2 hf2 => ?_
    refine rd_of (cells_all hb2 rfl) ?_
    rw [he]
    exact ⟨none, 0, rfl, ⟨[], rfl, World.ownsRow_nil _ _ _ _, fun j m q h => by simp [dgZ] at h⟩, hf.trans' hf2 fun i hi e => by omega⟩
  refine br_dec (fun h11 => ?_) (fun h11 => ?_)
  · exact fail 2 w1 (by unfold decD; rw [if_pos (by omega)]) hf1 ⟨_, rfl, hb1⟩
  obtain ⟨k, hk⟩ : ∃ k, k = ys.length - 2 := ⟨_, rfl⟩
  rw [show IntKind.i64.wrap ((ys.length : Int) - 2) = (k : Int) from (w64 (by omega)).trans (by omega)]
  refine ⟨fun w' => Fm none' w w', hf1.trans (Fm.drew w1), ?_⟩
  simp only [vcs, eqV, nilV, Option.map_some, Nat.mul_one, implies_true, true_and, and_true, and_self]
  have hs9 : (row Tryd.prog 9).k = .string := by rw [row9]
  refine slice_strH hs9 (by omega) ⟨fun w' _ => slice_strH hs9 (by omega) ⟨rfl, rfl⟩, ?_⟩
  simp only [vcs, eqV, nilV, Option.map_some, Nat.mul_one, implies_true, true_and, and_true, and_self]
  refine slice_strL hs9 (by omega) ⟨fun w' _ => slice_strL hs9 (by omega) ⟨rfl, rfl⟩, ?_⟩
  simp only [vcs, eqV, nilV, Option.map_some, Nat.mul_one, implies_true, true_and, and_true, and_self]
  have hbr : ∀ y ∈ ys.take k, 0 ≤ y ∧ y < 256 := fun y h => hy y (List.mem_of_mem_take h)
  have hbl : (ys.take k).length = k := by rw [List.length_take]; omega
  refine (sum28_c hbr (by omega)).mono ?_
  rintro _ _ ⟨rfl, rfl⟩
  simp only [vcs, eqV, nilV, Option.map_some, Nat.mul_one, implies_true, true_and, and_true, and_self]
  have hcl := crcF_lt (ys.take k) 65535 (by omega) hbr
  rw [show IntKind.i64.wrap ((crcF 65535 (ys.take k) : Nat) : Int) = ((crcF 65535 (ys.take k) : Nat) : Int) from w64 (by omega)]
  refine ⟨hf1.trans (Fm.drew w1), (two27_c hcl).mono ?_⟩
  rintro _ W2 ⟨rfl, hF27⟩
  simp only [vcs, eqV, nilV, Option.map_some, Nat.mul_one, implies_true, true_and, and_true, and_self]
  have hFw2 : Fm none' w W2 := (hf1.trans (Fm.drew w1)).trans hF27
  refine ⟨hFw2, ?_⟩
  have hbx2 : W2.heap[w.heap.size]? = some (.cells #[.int .u16 0, .bool false, .int .u16 0, .int .u32 0, .slice none 0 0] 35 (0, 0)) := hF27.keep (w := w1.drew) hb1 id
  have hbody : bodyB ys = ys.take k := by unfold bodyB; rw [hk]
  have hdl2 : (ys.drop k).length = 2 := by rw [List.length_drop]; omega
  have hdr : ∀ y ∈ ys.drop k, 0 ≤ y ∧ y < 256 := fun y h => hy y (List.mem_of_mem_drop h)
  have hsumeq : beB (crcF 65535 (ys.take k)) 2 = ys.drop k ↔ valB (ys.drop k) = crcF 65535 (ys.take k) := by
    constructor
    · intro h; rw [← h, valB_2 hcl]
    · intro h; rw [← h, beB_val2 hdl2 hdr]
  refine br_ndec (fun hne => ?_) (fun heq => ?_)
  · rw [strOfNums_inj (beB_r _ _) hdr, hsumeq] at hne
    exact fail 4 W2 (by unfold decD; rw [if_neg (by omega), if_pos (by rw [hbody, ← hk]; exact hne)]) hFw2 ⟨_, rfl, hbx2⟩
  rw [strOfNums_inj (beB_r _ _) hdr, hsumeq] at heq
  obtain ⟨y2, hy2⟩ : ∃ y, ys[2]? = some y := ⟨ys[2]'(by omega), by simp⟩
  have hy2r := hy y2 (List.mem_of_getElem? hy2)
  have hpre : ∀ x : Dg × Int, decD ys = x ↔ (if 1024 < ys.length ∨ 1 < ys.getD 2 0 ∨ ((numsD ys).any = false ∧ ((numsD ys).last ≠ 0 ∨ (numsD ys).bits ≠ 0)) then (dgZ, 3)
      else if (decodeM ((bodyB ys).drop 9)).2 ≠ 0 then (dgZ, (decodeM ((bodyB ys).drop 9)).2) else ({ numsD ys with list := (decodeM ((bodyB ys).drop 9)).1 }, 0)) = x := by
    intro x
    unfold decD
    rw [if_neg (by omega), if_neg (by rw [hbody, ← hk]; simpa using heq)]
  have hgd : ys.getD 2 0 = y2 := by rw [List.getD_eq_getElem?_getD, hy2]; rfl
  have hany : (numsD ys).any = decide (y2 = 1) := by unfold numsD; rw [hgd]
  have form : (1024 < ys.length ∨ 1 < y2 ∨ ((numsD ys).any = false ∧ ((numsD ys).last ≠ 0 ∨ (numsD ys).bits ≠ 0))) → decD ys = (dgZ, 3) := by
    intro h
    rw [hpre, hgd, if_pos h]
  refine ⟨fun _ w' => w' = W2 ∧ ¬ (1024 < ys.length ∨ 1 < y2 ∨ ((numsD ys).any = false ∧ ((numsD ys).last ≠ 0 ∨ (numsD ys).bits ≠ 0))), ?_, ?_⟩
  · refine br_dec (fun h => fail 3 W2 (form (.inl (by omega))) hFw2 ⟨_, rfl, hbx2⟩) fun h1 => ?_
    refine index_str hs9 hy hy2 ?_
    simp only [vcs, eqV, nilV, Option.map_some, Nat.mul_one, implies_true, true_and, and_true, and_self]
    refine br_dec (fun h => fail 3 W2 (form (.inr (.inl h))) hFw2 ⟨_, rfl, hbx2⟩) fun h2 => ?_
    refine index_str hs9 hy hy2 ?_
    simp only [vcs, eqV, nilV, Option.map_some, Nat.mul_one, implies_true, true_and, and_true, and_self]
    have hz := zero6 hy (by omega)
    refine br_dec (fun h0 => ?_) (fun h0 => ?_)
    · refine slice_str (l := 3) (h := 9) hs9 (by omega) (by omega) ?_
      simp only [vcs, eqV, nilV, Option.map_some, Nat.mul_one, implies_true, true_and, and_true, and_self]
      have e6 : (⟨#[0, 0, 0, 0, 0, 0]⟩ : ByteArray) = strOfNums (List.replicate 6 0) := rfl
      rw [e6]
      have hiff := strOfNums_inj (xs := (ys.take 9).drop 3) (ys := List.replicate 6 0) (fun y h => hy y (List.mem_of_mem_take (List.mem_of_mem_drop h))) (by intro y h; rw [List.eq_of_mem_replicate h]; omega)
      refine br_ndec (fun h => ?_) (fun h => ?_)
      · rw [hiff, hz] at h
        exact fail 3 W2 (form (.inr (.inr ⟨by rw [hany]; simp; omega, Decidable.not_not.1 h⟩))) hFw2 ⟨_, rfl, hbx2⟩
      · rw [hiff, hz] at h
        intro h'
        rcases h' with h' | h' | h'
        · omega
        · omega
        · exact h h'.2
    · intro h'
      rcases h' with h' | h' | h'
      · omega
      · omega
      · rw [hany] at h'
        have := h'.1
        simp at this; omega
  rintro u3 W3 ⟨rfl, hgo⟩
  refine slice_str (l := 9) (h := k) hs9 (by omega) (by omega) ?_
  simp only [vcs, eqV, nilV, Option.map_some, Nat.mul_one, implies_true, true_and, and_true, and_self]
  rw [← hbody]
  have hdl : ((bodyB ys).drop 9).length = k - 9 := by rw [hbody, List.length_drop, hbl]
  refine (decode19_c (ys := (bodyB ys).drop 9) (fun y h => hy y (List.mem_of_mem_take (List.mem_of_mem_drop h))) (by omega)).mono ?_
  rintro _ W4 ⟨sv, rfl, hown, hF4⟩
  obtain ⟨pm, cm, rfl, -⟩ := hown.at
  simp only [vcs, eqV, nilV, Option.map_some, Nat.mul_one, implies_true, true_and, and_true, and_self, List.getElem?_toArray, List.getElem?_cons_zero, List.getElem?_cons_succ]
  have hbx4 := hF4.keep hbx2 id
  have hF4w := hFw2.trans hF4
  refine br_ndec (fun he => ?_) (fun he => ?_)
  · exact fail _ W4 (by rw [hpre, hgd, if_neg hgo, if_pos he]) hF4w ⟨_, rfl, hbx4⟩
  have hy2' : ∀ (w' : World) (K : Value → World → Prop), K (.int .u8 y2) w' → runs Tryd.prog (Instr.index 9 (.string (strOfNums ys)) (.int .i64 2)) w' K := fun w' K h => index_str hs9 hy hy2 h
  refine ⟨fun w' => True, trivial, ?_⟩
  refine slice_strH (h := 2) hs9 (by omega) ⟨fun w' _ => slice_strH (h := 2) hs9 (by omega) ⟨rfl, rfl⟩, ?_⟩
  simp only [vcs, eqV, nilV, Option.map_some, Nat.mul_one, implies_true, true_and, and_true, and_self]
  refine hy2' _ _ ⟨fun w' _ => hy2' _ _ ⟨rfl, rfl⟩, ?_⟩
  simp only [vcs, eqV, nilV, Option.map_some, Nat.mul_one, implies_true, true_and, and_true, and_self]
  refine slice_str (l := 3) (h := 5) hs9 (by omega) (by omega) ⟨fun w' _ => slice_str (l := 3) (h := 5) hs9 (by omega) (by omega) ⟨rfl, rfl⟩, ?_⟩
  simp only [vcs, eqV, nilV, Option.map_some, Nat.mul_one, implies_true, true_and, and_true, and_self]
  refine slice_str (l := 5) (h := 9) hs9 (by omega) (by omega) ⟨fun w' _ => slice_str (l := 5) (h := 9) hs9 (by omega) (by omega) ⟨rfl, rfl⟩, ?_⟩
  simp only [vcs, eqV, nilV, Option.map_some, Nat.mul_one, implies_true, true_and, and_true, and_self]
  refine (number32_c (ys := ys.take 2) (fun y h => hy y (List.mem_of_mem_take h)) (by rw [List.length_take]; omega)).mono ?_
  rintro _ _ ⟨rfl, rfl⟩
  simp only [vcs, eqV, nilV, Option.map_some, Nat.mul_one, implies_true, true_and, and_true, and_self]
  refine (number32_c (ys := (ys.take 5).drop 3) (fun y h => hy y (List.mem_of_mem_take (List.mem_of_mem_drop h))) (by rw [List.length_drop, List.length_take]; omega)).mono ?_
  rintro _ _ ⟨rfl, rfl⟩
  simp only [vcs, eqV, nilV, Option.map_some, Nat.mul_one, implies_true, true_and, and_true, and_self]
  refine (number32_c (ys := (ys.take 9).drop 5) (fun y h => hy y (List.mem_of_mem_take (List.mem_of_mem_drop h))) (by rw [List.length_drop, List.length_take]; omega)).mono ?_
  rintro _ _ ⟨rfl, rfl⟩
  simp only [vcs, eqV, nilV, Option.map_some, Nat.mul_one, implies_true, true_and, and_true, and_self]
  have hv1 := valB_lt 2 (ys.take 2) (by rw [List.length_take]; omega) fun y h => hy y (List.mem_of_mem_take h)
  have hv2 := valB_lt 2 ((ys.take 5).drop 3) (by rw [List.length_drop, List.length_take]; omega) fun y h => hy y (List.mem_of_mem_take (List.mem_of_mem_drop h))
  rw [show IntKind.u16.wrap ((valB (ys.take 2) : Nat) : Int) = ((valB (ys.take 2) : Nat) : Int) from w16 (by omega), show IntKind.u16.wrap ((valB ((ys.take 5).drop 3) : Nat) : Int) = ((valB ((ys.take 5).drop 3) : Nat) : Int) from w16 (by omega)]
  refine stC_all (w := W4.drew) hbx4 rfl (fun v hv => by simp at hv; rcases hv with rfl | rfl | rfl | rfl | rfl <;> rfl) fun W6 hb6 hf6 => ?_
  refine rd_of (cells_all hb6 rfl) ?_
  have hdec : decD ys = ({ numsD ys with list := (decodeM ((bodyB ys).drop 9)).1 }, 0) := by
    rw [hpre, hgd, if_neg hgo, if_neg (by simpa using he)]
  rw [hdec]
  refine ⟨pm, cm, ?_, ?_, (hF4w.trans (Fm.drew W4)).trans' hf6 fun i hi e => by omega⟩
  · simp only [dgC, hany]; rfl
  refine OwnMsgs.keep (S := fun i => i = w.heap.size) (hown.base hFw2.size) ((Fm.drew W4).none.trans hf6) ?_
  rintro i cc t hi hbi ht rfl
  rw [hbx4] at hi; cases hi; rcases ht with h | h <;> cases h
end Go.Proofs.YtipikchkbmgloaaDoor
namespace Go.Proofs.YtipikchkbmgloaaDoor
set_option linter.unusedSimpArgs false
set_option linter.unusedVariables false
open Go Go.RowKit VC
variable {w : World}
theorem conv_run {q : Option Addr} {n c : Nat} {ys : List Int} {K : Value → World → Prop} (hn : n = ys.length) (h : BytesAt w q ys) (k : K (.string (strOfNums ys)) w) : runs Tryd.prog (convert 25 9 (.slice q n c)) w K :=
  conv_bytes (by rw [row25]) (by rw [row5]) (by rw [row9]) hn (fun j y hj => h j y hj) k
theorem decD_rok {ys : List Int} (hy : ∀ y ∈ ys, 0 ≤ y ∧ y < 256) : (∀ m ∈ (decD ys).1.list, Rok m) ∧ (decD ys).1.list.length ≤ 16 := by
  have hz : (∀ m ∈ dgZ.list, Rok m) ∧ dgZ.list.length ≤ 16 := ⟨by simp [dgZ], by simp [dgZ]⟩
  unfold decD
  split
  · exact hz
  split
  · exact hz
  split
  · exact hz
  split
  · exact hz
  rename_i h
  have hr : decodeM ((bodyB ys).drop 9) = ((decodeM ((bodyB ys).drop 9)).1, 0) := by
    have h' : (decodeM ((bodyB ys).drop 9)).2 = 0 := by simpa using h
    rw [← h']
  have := enc_dec (fun y h => hy y (List.mem_of_mem_take (List.mem_of_mem_drop h))) hr
  exact ⟨this.1, this.2.1⟩
theorem cut_bytes {ys : List Int} {p : Option Addr} {c : Nat} {K : Value → World → Prop} {k : Nat} (hb : BytesAt w p ys) (hnc : ys.length ≤ c) (hk : k ≤ 100000)
    (kk : ∀ q e w', Loose w' none' none' w.heap.size q e (ys.take k) → Fm none' w w' → K (.slice q (ys.take k).length e) w') :
    runs Tryd.prog (Instr.buildSlice 25 0 #[]) w fun v8 w9 => isSl v8 fun o10 n11 n12 => runs Tryd.prog (Instr.sliceAt 25 (.slice p ys.length c) none (some (.int .i64 (min (ys.length : Int) k))) none) w9 fun v13 w14 => isSl v13 fun o15 n16 n17 =>
      runs Tryd.prog (Builtin.append_ #[25, 25] 25 #[.slice o10 n11 n12, .slice o15 n16 n17]) w14 K := by
  refine build_none (by rw [row25]) row5 fun s w9 hs hs9 hf9 => ?_
  obtain ⟨p9, c9, rfl, -⟩ := own_read hs
  simp only [vcs, eqV, nilV, Option.map_some, Nat.mul_one, implies_true, true_and, and_true, and_self]
  obtain ⟨n, hn⟩ : ∃ n, n = min ys.length k := ⟨_, rfl⟩
  rw [show min (ys.length : Int) k = (n : Int) by omega]
  refine sliceAt_hi (by rw [row25]) row5 (by omega) (by omega) ?_
  simp only [vcs, eqV, nilV, Option.map_some, Nat.mul_one, implies_true, true_and, and_true, and_self]
  have hnl : n = (ys.take k).length := by rw [List.length_take]; omega
  have hbt : BytesAt w9 (if c = 0 then p else p.map (·.add 0)) (ys.take k) := ((hb.keep hf9 fun _ _ => id).take k).zero c
  have hbt' := hbt
  refine append_b (ys := ys.take k) (by rw [row25]) row5 rfl hs hnl (fun j y hj => hbt' j y hj) hf9.size (by simp only [maxLen]; omega) (by omega) fun v w19 hv hf hblk => ?_
  obtain ⟨q, e, rfl, -⟩ := own_read hv
  simp only [Nat.zero_add, List.nil_append] at hv ⊢
  rw [hnl] at hv ⊢
  exact kk q e w19 ⟨hv, fun i _ => ⟨id, id⟩⟩ (hf9.trans' hf fun i hi e => by have := (own_block hs e).1; omega)
theorem lay_dg {d : Dg} {q : Option Addr} {c T : Nat} {C : Array Value} {K : Nat → World → Prop} (hC : C.size = 5)
    (k : ∀ D w', w.heap.size ≤ D → w'.heap[D]? = some (.cells #[.int .u16 d.seq, .bool d.any, .int .u16 d.last, .int .u32 d.bits, .slice q d.list.length c] T (0, 0)) → Fm none' w w' → K D w') :
    allocC w (.cells C T (0, 0)) fun n w1 => rd (gd ((dgC d q c).cells.toList.length == 5)) fun _ => stC w1 ⟨n, 0, none⟩ (cellsOf true (dgC d q c)) fun w2 => K n w2 := by
  refine allocC_of fun w1 hb1 hs1 hf1 => ?_
  refine rd_of (v := ()) rfl ?_
  refine stC_all hb1 (by rw [hC]; rfl) (fun v hv => by
    have : v ∈ [Value.int .u16 d.seq, .bool d.any, .int .u16 d.last, .int .u32 d.bits, .slice q d.list.length c] := hv
    simp at this; rcases this with rfl | rfl | rfl | rfl | rfl <;> rfl) fun w2 hb2 hf2 => ?_
  exact k _ w2 (Nat.le_refl _) hb2 (hf1.trans' hf2 fun i hi e => by omega)
set_option maxRecDepth 20000 in
set_option maxHeartbeats 1000000 in
theorem bytes3_c {seq last bits : Nat} {any : Bool} {ms : List Msg} {p q : Option Addr} {c e : Nat} {ys : List Int} (hH : Halves w) (hs : seq < 65536) (hl : last < 65536) (hbt : bits < 4294967296) (hin : In w p ms) (hnc : ms.length ≤ c)
    (hb : BytesAt w q ys) (hy : ∀ y ∈ ys, 0 ≤ y ∧ y < 256) (hne : ys.length ≤ e) :
    callV Tryd.prog 3 [.int .u16 seq, .bool any, .int .u16 last, .int .u32 bits, .slice p ms.length c, .slice q ys.length e] w fun v w' => v = .bool true ∧ Fm none' w w' := by
  refine vc3 seq any last bits p ms.length c q ys.length e w _ ?_
  refine (shown8_c hH).mono ?_
  rintro _ w1 ⟨rfl, hf1⟩
  simp only [vcs, eqV, nilV, Option.map_some, Nat.mul_one, implies_true, true_and, and_true, and_self]
  have hin1 : In w1 p ms := hin.keep hf1
  refine (few9_c hin1 hnc).mono ?_
  rintro v3 w4 ⟨hown4, hf4⟩
  obtain ⟨pm, cm, rfl, hms4⟩ := hown4.at
  obtain ⟨hMok, -⟩ := few_ok hin.ok
  obtain ⟨M, hM⟩ : ∃ M, M = fewM ms := ⟨_, rfl⟩
  have hMl : M.length ≤ 20 := by rw [hM]; exact few_len ms
  rw [← hM] at hms4 hMok hown4 ⊢
  simp only [vcs, eqV, nilV, Option.map_some, Nat.mul_one, implies_true, true_and, and_true, and_self]
  have hF4 := hf1.trans hf4
  refine cut_bytes (k := 2000) (hb.keep hF4 fun _ _ => id) hne (by omega) fun qb eb w19 hbz hf19 => ?_
  obtain ⟨zs, hzs⟩ : ∃ zs, zs = ys.take 2000 := ⟨_, rfl⟩
  have hzl : zs.length ≤ 2000 := by rw [hzs, List.length_take]; omega
  have hzr : ∀ y ∈ zs, 0 ≤ y ∧ y < 256 := fun y h => hy y (List.mem_of_mem_take (hzs ▸ h))
  rw [← hzs] at hbz ⊢
  simp only [vcs, eqV, nilV, Option.map_some, Nat.mul_one, implies_true, true_and, and_true, and_self]
  have hF19 := hF4.trans hf19
  have hd : Dok ⟨seq, any, last, bits, M⟩ := ⟨hs, hl, hbt⟩
  have hms19 := hms4.keep (N := w4.heap.size) hf19 fun _ _ => id
  refine (encode10_c (d := ⟨seq, any, last, bits, M⟩) (p := pm) (c := cm) (hH.keep hF19 id) hd hms19 hf19.size hMok).mono ?_
  rintro _ w24 ⟨qx, ex, rfl, hox, hf24⟩
  simp only [vcs, eqV, nilV, Option.map_some, Nat.mul_one, implies_true, true_and, and_true, and_self, List.getElem?_toArray, List.getElem?_cons_zero, List.getElem?_cons_succ]
  have hF24 := hF19.trans hf24
  obtain ⟨E, hE⟩ : ∃ E, E = encD ⟨seq, any, last, bits, M⟩ := ⟨_, rfl⟩
  rw [← hE] at hox ⊢
  have hms24 : MsgsAt w24 w24.heap.size pm M := (hms19.keep hf24 fun _ _ => id).up (Nat.le_trans hf19.size hf24.size)
  refine (encode11_c (d := ⟨seq, any, last, bits, M⟩) (p := pm) (c := cm) hd hms24 hMok (by show M.length ≤ 100; omega)).mono ?_
  rintro _ w34 ⟨rfl, hf34⟩
  rw [← hE]
  simp only [vcs, eqV, nilV, Option.map_some, Nat.mul_one, implies_true, true_and, and_true, and_self, List.getElem?_toArray, List.getElem?_cons_zero, List.getElem?_cons_succ]
  have hF34 := hF24.trans hf34
  have hbz34 : BytesAt w34 qb zs := (hbz.keep (hf24.trans hf34)).bytes
  refine (decode12_c (c := eb) (hH.keep hF34 id) hbz34 hzr (by omega) hbz.cap).mono ?_
  rintro _ w42 ⟨q1, c1, rfl, ho1, hf42⟩
  obtain ⟨D, hD⟩ : ∃ D, D = (decD zs).1 := ⟨_, rfl⟩
  obtain ⟨De, hDe⟩ : ∃ De, De = (decD zs).2 := ⟨_, rfl⟩
  rw [← hD] at ho1 ⊢
  rw [← hDe]
  simp only [vcs, eqV, nilV, Option.map_some, Nat.mul_one, implies_true, true_and, and_true, and_self, List.getElem?_toArray, List.getElem?_cons_zero, List.getElem?_cons_succ]
  refine lay_dg rfl fun D1 w50 hD1 hb50 hf50 => ?_
  have hF42 := hF34.trans (hf42.trans hf50)
  refine conv_run rfl ((hbz34.keep hf42 fun _ _ => id).keep hf50 fun _ _ => id) ?_
  simp only [vcs, eqV, nilV, Option.map_some, Nat.mul_one, implies_true, true_and, and_true, and_self]
  refine (decode13_c (w := w50) hzr (by omega)).mono ?_
  rintro _ w55 ⟨q2, c2, rfl, ho2, hf55⟩
  rw [← hD] at ho2 ⊢
  rw [← hDe]
  simp only [vcs, eqV, nilV, Option.map_some, Nat.mul_one, implies_true, true_and, and_true, and_self, List.getElem?_toArray, List.getElem?_cons_zero, List.getElem?_cons_succ]
  refine lay_dg rfl fun D2 w63 hD2 hb63 hf63 => ?_
  have hf5063 := hf55.trans hf63
  have hF63 := hF42.trans hf5063
  have hx63 : BytesAt w63 qx E.1 := (BytesAt.of_own hox).keep (((hf34.trans hf42).trans hf50).trans hf5063) fun _ _ => id
  refine conv_run rfl hx63 ?_
  simp only [vcs, eqV, nilV, Option.map_some, Nat.mul_one, implies_true, true_and, and_true, and_self]
  have hb50' := hf5063.keep hb50 id
  have k0 : w63.cell? ⟨D1, 0, none⟩ = some (.int .u16 D.seq) := cellOf hb50' rfl
  have k1 : w63.cell? ⟨D1, 1, none⟩ = some (.bool D.any) := cellOf hb50' rfl
  have k2 : w63.cell? ⟨D1, 2, none⟩ = some (.int .u16 D.last) := cellOf hb50' rfl
  have k3 : w63.cell? ⟨D1, 3, none⟩ = some (.int .u32 D.bits) := cellOf hb50' rfl
  have k4 : w63.cell? ⟨D1, 4, none⟩ = some (.slice q1 D.list.length c1) := cellOf hb50' rfl
  have j0 : w63.cell? ⟨D2, 0, none⟩ = some (.int .u16 D.seq) := cellOf hb63 rfl
  have j1 : w63.cell? ⟨D2, 1, none⟩ = some (.bool D.any) := cellOf hb63 rfl
  have j2 : w63.cell? ⟨D2, 2, none⟩ = some (.int .u16 D.last) := cellOf hb63 rfl
  have j3 : w63.cell? ⟨D2, 3, none⟩ = some (.int .u32 D.bits) := cellOf hb63 rfl
  have j4 : w63.cell? ⟨D2, 4, none⟩ = some (.slice q2 D.list.length c2) := cellOf hb63 rfl
  simp only [k0, k1, k2, k3, k4, j0, j1, j2, j3, j4, decide_true, vcs, eqV, nilV, Option.map_some, Nat.mul_one, implies_true, true_and, and_true, and_self]
  obtain ⟨_, _, e1, m1⟩ := (ho1.keep (hf50.trans hf5063) fun _ _ _ _ _ _ => id).at
  cases e1
  obtain ⟨_, _, e2, m2⟩ := (ho2.keep hf63 fun _ _ _ _ _ _ => id).at
  cases e2
  obtain ⟨hrok, hDl⟩ := decD_rok hzr
  rw [← hD] at hrok hDl
  have hrb : ∀ m ∈ D.list, ∀ y ∈ m.bytes, 0 ≤ y ∧ y < 256 := fun m hm => (hrok m hm).ok.bytes
  refine (same14_c (cp := c1) (cq := c2) m1 m2 hrb hrb (by omega)).mono ?_
  rintro _ w92 ⟨rfl, hf92⟩
  simp only [decide_true, vcs, eqV, nilV, Option.map_some, Nat.mul_one, implies_true, true_and, and_true, and_self]
  exact hF63.trans hf92
end Go.Proofs.YtipikchkbmgloaaDoor
namespace Go.Proofs.YtipikchkbmgloaaDoor
set_option linter.unusedSimpArgs false
set_option linter.unusedVariables false
open Go Go.RowKit VC
theorem encD_ok {d : Dg} (h : (encD d).2 = 0) : ¬ (d.any = false ∧ (d.last ≠ 0 ∨ d.bits ≠ 0)) ∧ (encodeM d.list).2 = 0 ∧ (sealB (headB d ++ (encodeM d.list).1)).length ≤ 1024 ∧ (encD d).1 = sealB (headB d ++ (encodeM d.list).1) := by
  unfold encD at h ⊢
  split at h
  · cases h
  · rename_i h1
    rw [if_neg h1]
    split at h
    · rename_i h2; exact absurd h h2
    · rename_i h2
      rw [if_neg h2]
      split at h
      · cases h
      · rename_i h3
        rw [if_neg h3]
        exact ⟨h1, by simpa using h2, by omega, rfl⟩
theorem encD_of {d : Dg} (h1 : ¬ (d.any = false ∧ (d.last ≠ 0 ∨ d.bits ≠ 0))) (h2 : (encodeM d.list).2 = 0) (h3 : (sealB (headB d ++ (encodeM d.list).1)).length ≤ 1024) : encD d = (sealB (headB d ++ (encodeM d.list).1), 0) := by
  unfold encD
  rw [if_neg h1, if_neg (by simpa using h2), if_neg (by omega)]
theorem dec_encD {d : Dg} (hd : Dok d) (hm : Msok d.list) (h : (encD d).2 = 0) : decD (encD d).1 = (d, 0) := by
  obtain ⟨h1, h2, h3, h4⟩ := encD_ok h
  rw [h4]
  obtain ⟨seq, any, last, bits, l⟩ := d
  obtain ⟨hs, hla, hb⟩ := hd
  change seq < 65536 at hs
  change last < 65536 at hla
  change bits < 4294967296 at hb
  obtain ⟨e1, e2, e3, e4⟩ := enc_ok hm h2
  obtain ⟨body, hbody⟩ : ∃ b, b = (encodeM l).1 := ⟨_, rfl⟩
  have hdm : decodeM body = (l, 0) := by rw [hbody, e4]; exact dec_enc e1 e2 e3
  have hbr : ∀ y ∈ body, 0 ≤ y ∧ y < 256 := by rw [hbody]; exact enc_range l
  change (sealB (headB ⟨seq, any, last, bits, l⟩ ++ (encodeM l).1)).length ≤ 1024 at h3
  show decD (sealB (headB ⟨seq, any, last, bits, l⟩ ++ (encodeM l).1)) = _
  rw [← hbody] at h3 ⊢
  obtain ⟨x, hx⟩ : ∃ x, x = headB ⟨seq, any, last, bits, l⟩ ++ body := ⟨_, rfl⟩
  have hxl : x.length = 9 + body.length := by rw [hx, List.length_append, headB_length]
  have hxr : ∀ y ∈ x, 0 ≤ y ∧ y < 256 := by
    intro y hy
    rw [hx] at hy
    exact (List.mem_append.1 hy).elim (headB_r _ y) (hbr y)
  have hcl := crcF_lt x 65535 (by omega) hxr
  rw [← hx] at h3 ⊢
  have hl : (sealB x).length = x.length + 2 := sealB_length x
  have hbo : bodyB (sealB x) = x := by
    unfold bodyB
    rw [hl, Nat.add_sub_cancel]
    unfold sealB
    exact List.take_left' rfl
  have hdr : (sealB x).drop ((sealB x).length - 2) = beB (crcF 65535 x) 2 := by
    rw [hl, Nat.add_sub_cancel]
    unfold sealB
    exact List.drop_left' rfl
  -- the head, read
  obtain ⟨rest, hrest⟩ : ∃ rest, sealB x = beB seq 2 ++ (flagB any ++ (beB last 2 ++ (beB bits 4 ++ rest))) := ⟨body ++ beB (crcF 65535 x) 2, by
    unfold sealB
    generalize beB (crcF 65535 x) 2 = t
    rw [hx]
    simp only [headB, List.append_assoc]⟩
  have l2 := beB_length seq 2
  have lf : (flagB any).length = 1 := rfl
  have ll := beB_length last 2
  have lb := beB_length bits 4
  have t2 : (sealB x).take 2 = beB seq 2 := by rw [hrest]; exact List.take_left' l2
  have t5 : ((sealB x).take 5).drop 3 = beB last 2 := by
    rw [List.drop_take, hrest, ← List.append_assoc, List.drop_left' (by simp [l2, lf])]
    exact List.take_left' ll
  have t9 : ((sealB x).take 9).drop 5 = beB bits 4 := by
    rw [List.drop_take, hrest, ← List.append_assoc, ← List.append_assoc, List.drop_left' (by simp [l2, lf, ll])]
    exact List.take_left' lb
  have hg : (sealB x).getD 2 0 = if any then 1 else 0 := by
    rw [List.getD_eq_getElem?_getD, hrest, List.getElem?_append_right (by omega), l2]
    rfl
  have hx9 : x.drop 9 = body := by rw [hx]; exact List.drop_left' (headB_length _)
  have hany : decide ((sealB x).getD 2 0 = 1) = any := by rw [hg]; cases any <;> rfl
  have hn : numsD (sealB x) = ⟨seq, any, last, bits, []⟩ := by
    unfold numsD
    rw [t2, t5, t9, hany, valB_2 hs, valB_2 hla, valB_4 hb]
  unfold decD
  rw [if_neg (by omega), hdr, valB_2 hcl, hbo, hn, hg, hx9, hdm, if_neg (by simp), if_neg, if_neg (by simp)]
  rintro (h | h | h)
  · omega
  · revert h; cases any <;> decide
  · exact h1 h
theorem beB_val4 {ys : List Int} (hl : ys.length = 4) (hy : ∀ y ∈ ys, 0 ≤ y ∧ y < 256) : beB (valB ys) 4 = ys := by
  match ys, hl with
  | [a, b, c, d], _ =>
    have ha := hy a (by simp)
    have hb := hy b (by simp)
    have hc := hy c (by simp)
    have hd := hy d (by simp)
    simp [beB, List.range_succ, valB]
    omega
theorem encodeM_of {ms : List Msg} (h : ∀ m ∈ ms, Rok m) (h16 : ms.length ≤ 16) (hl : (pack (encBits ms)).length ≤ 1024) : encodeM ms = (pack (encBits ms), 0) := by
  unfold encodeM
  rw [if_pos (List.all_eq_true.2 fun m hm => (h m hm).right), if_neg (by omega)]
theorem enc_decD {ys : List Int} (hy : ∀ y ∈ ys, 0 ≤ y ∧ y < 256) (h : (decD ys).2 = 0) : encD (decD ys).1 = (ys, 0) := by
  unfold decD at h ⊢
  split at h
  · cases h
  rename_i h1
  rw [if_neg h1]
  split at h
  · cases h
  rename_i h2
  rw [if_neg h2]
  split at h
  · cases h
  rename_i h3
  rw [if_neg h3]
  split at h
  · rename_i h4; exact absurd h h4
  rename_i h4
  rw [if_neg h4]
  have h4' : (decodeM ((bodyB ys).drop 9)).2 = 0 := by simpa using h4
  have h2' : valB (ys.drop (ys.length - 2)) = crcF 65535 (bodyB ys) := by simpa using h2
  rw [not_or, not_or] at h3
  obtain ⟨a1, a2, a3⟩ := h3
  have hbl : (bodyB ys).length = ys.length - 2 := by unfold bodyB; rw [List.length_take]; omega
  have hbr : ∀ y ∈ (bodyB ys).drop 9, 0 ≤ y ∧ y < 256 := fun y h => hy y (List.mem_of_mem_take (List.mem_of_mem_drop h))
  obtain ⟨b1, b2, b3, b4, -⟩ := enc_dec hbr (show decodeM ((bodyB ys).drop 9) = ((decodeM ((bodyB ys).drop 9)).1, 0) by rw [← h4'])
  have he := encodeM_of b1 b2 (by rw [b4]; exact b3)
  rw [b4] at he
  obtain ⟨y2, hy2⟩ : ∃ y, ys[2]? = some y := ⟨ys[2]'(by omega), by simp⟩
  have hgd : ys.getD 2 0 = y2 := by rw [List.getD_eq_getElem?_getD, hy2]; rfl
  have hy2r := hy y2 (List.mem_of_getElem? hy2)
  rw [hgd] at a2
  have hfl : flagB (decide (y2 = 1)) = [y2] := by
    have : y2 = 0 ∨ y2 = 1 := by omega
    rcases this with rfl | rfl <;> rfl
  have hhead : headB { numsD ys with list := (decodeM ((bodyB ys).drop 9)).1 } = ys.take 9 := by
    unfold headB numsD
    simp only [hgd]
    rw [beB_val2 (by rw [List.length_take]; omega) (fun y h => hy y (List.mem_of_mem_take h)), hfl, beB_val2 (by rw [List.length_drop, List.length_take]; omega) (fun y h => hy y (List.mem_of_mem_take (List.mem_of_mem_drop h))),
      beB_val4 (by rw [List.length_drop, List.length_take]; omega) (fun y h => hy y (List.mem_of_mem_take (List.mem_of_mem_drop h)))]
    have s1 : ys.take 3 = ys.take 2 ++ [y2] := by rw [List.take_add_one, hy2]; rfl
    have s2 : ys.take 5 = ys.take 3 ++ (ys.take 5).drop 3 := by
      have := List.take_append_drop 3 (ys.take 5)
      rw [List.take_take] at this
      exact this.symm
    have s3 : ys.take 9 = ys.take 5 ++ (ys.take 9).drop 5 := by
      have := List.take_append_drop 5 (ys.take 9)
      rw [List.take_take] at this
      exact this.symm
    rw [← s1, ← s2, ← s3]
  have hx : ys.take 9 ++ (bodyB ys).drop 9 = bodyB ys := by
    have := List.take_append_drop 9 (bodyB ys)
    have e : (bodyB ys).take 9 = ys.take 9 := by unfold bodyB; rw [List.take_take, Nat.min_eq_left (by omega)]
    rw [e] at this
    exact this
  have hseal : sealB (bodyB ys) = ys := by
    unfold sealB
    rw [← h2', beB_val2 (by rw [List.length_drop]; omega) (fun y h => hy y (List.mem_of_mem_drop h))]
    unfold bodyB
    exact List.take_append_drop _ _
  obtain ⟨d, hd⟩ : ∃ d : Dg, d = { numsD ys with list := (decodeM ((bodyB ys).drop 9)).1 } := ⟨_, rfl⟩
  have hdl : d.list = (decodeM ((bodyB ys).drop 9)).1 := by rw [hd]
  have e2 : (encodeM d.list).2 = 0 := by rw [hdl, he]
  have e1 : headB d ++ (encodeM d.list).1 = bodyB ys := by rw [hdl, he, hd, hhead, hx]
  show encD { numsD ys with list := (decodeM ((bodyB ys).drop 9)).1 } = (ys, 0)
  rw [← hd, encD_of (by rw [hd]; exact a3) e2 (by rw [e1, hseal]; omega), e1, hseal]
end Go.Proofs.YtipikchkbmgloaaDoor
namespace Go.Proofs.YtipikchkbmgloaaDoor
set_option linter.unusedSimpArgs false
set_option linter.unusedVariables false
open Go Go.RowKit VC
variable {w : World}
theorem decD_zero {ys : List Int} (h : (decD ys).2 ≠ 0) : (decD ys).1.list = [] ∧ (decD ys).1.any = false := by
  rw [decD_err h]; exact ⟨rfl, rfl⟩
def backK (zs : List Int) (qb : Option Addr) (eb : Nat) (w : World) (R : Value → World → Prop) : Prop :=
  callV Tryd.prog 12 [.slice qb zs.length eb] w fun v91 w92 => isTup v91 fun l93 => rd l93[0]? fun v94 => isTup v91 fun l95 => rd l95[1]? fun v96 => isK .i64 v96 fun i97 =>
    allocC w92 (.cells #[.int .u16 0, .bool false, .int .u16 0, .int .u32 0, .slice none 0 0] 32 (0, 0)) fun n98 w99 => rd (gd (v94.cells.toList.length == 5)) fun _ =>
    stC w99 ⟨n98, 0, none⟩ (cellsOf true v94) fun w100 =>
    br (!decide (i97 = 0))
      (br true (rd (w100.cell? ⟨n98, 4, none⟩) fun v101 => isSl v101 fun _ n103 _ => br (decide ((n103 : Int) = 0)) (rd (w100.cell? ⟨n98, 1, none⟩) fun v105 => isB v105 fun t106 => R (.bool !t106) w100) (R (.bool false) w100)) (R (.bool false) w100))
      (rd (cellsAt w100 ⟨n98, 0, none⟩ 5) fun l107 => callV Tryd.prog 10 [.agg l107.toArray] w100 fun v108 w109 => isTup v108 fun l110 => rd l110[0]? fun v111 => isSl v111 fun o112 n113 n114 => isTup v108 fun l115 => rd l115[1]? fun v116 => isK .i64 v116 fun i117 =>
        br true (br (decide (i117 = 0)) (runs Tryd.prog (convert 25 9 (.slice o112 n113 n114)) w109 fun v118 w119 => isStr v118 fun x120 => runs Tryd.prog (convert 25 9 (.slice qb zs.length eb)) w119 fun v121 w122 => isStr v121 fun x123 => R (.bool (decide (x120 = x123))) w122) (R (.bool false) w109)) (R (.bool false) w109))
set_option maxRecDepth 20000 in
theorem backK_of {zs : List Int} {qb : Option Addr} {eb base : Nat} {w0 : World} (hH : Halves w0) (hF : Fm none' w0 w) (hz : Loose w none' none' base qb eb zs) (hzr : ∀ y ∈ zs, 0 ≤ y ∧ y < 256) (hzl : zs.length ≤ 2000) :
    backK zs qb eb w fun v w' => v = .bool true ∧ Fm none' w0 w' := by
  unfold backK
  refine (decode12_c (c := eb) (hH.keep hF id) hz.bytes hzr (by omega) hz.cap).mono ?_
  rintro _ w42 ⟨q1, c1, rfl, ho1, hf42⟩
  obtain ⟨D, hD⟩ : ∃ D, D = (decD zs).1 := ⟨_, rfl⟩
  rw [← hD] at ho1 ⊢
  simp only [vcs, eqV, nilV, Option.map_some, Nat.mul_one, implies_true, true_and, and_true, and_self, List.getElem?_toArray, List.getElem?_cons_zero, List.getElem?_cons_succ]
  refine lay_dg rfl fun D1 w50 hD1 hb50 hf50 => ?_
  have hF50 := (hF.trans hf42).trans hf50
  have k1 : w50.cell? ⟨D1, 1, none⟩ = some (.bool D.any) := cellOf hb50 rfl
  have k4 : w50.cell? ⟨D1, 4, none⟩ = some (.slice q1 D.list.length c1) := cellOf hb50 rfl
  refine br_ndec (fun he => ?_) (fun he => ?_)
  · obtain ⟨e1, e2⟩ := decD_zero he
    rw [← hD] at e1 e2
    simp only [k1, k4, e1, e2, List.length_nil, vcs, eqV, nilV, Option.map_some, Nat.mul_one, implies_true, true_and, and_true, and_self]
    refine br_dec (fun _ => ⟨rfl, hF50⟩) (fun h => by simp at h)
  · have henc := enc_decD hzr he
    obtain ⟨hrok, hDl⟩ := decD_rok hzr
    have hdok := decD_ok hzr
    rw [← hD] at henc hrok hDl hdok
    refine rd_of (cells_all hb50 rfl) ?_
    obtain ⟨_, _, e1, m1⟩ := (ho1.keep hf50 fun _ _ _ _ _ _ => id).at
    cases e1
    have hMok : Msok D.list := ⟨fun m hm => (hrok m hm).ok, fun m hm => by have := (hrok m hm).len; omega, by omega⟩
    refine (encode10_c (c := c1) (hH.keep hF50 id) hdok m1 (Nat.le_refl _) hMok).mono ?_
    rintro _ w109 ⟨qx, ex, rfl, hox, hf109⟩
    rw [henc] at hox ⊢
    simp only [vcs, eqV, nilV, Option.map_some, Nat.mul_one, implies_true, true_and, and_true, and_self, List.getElem?_toArray, List.getElem?_cons_zero, List.getElem?_cons_succ, decide_true]
    refine conv_run rfl (BytesAt.of_own hox) ?_
    simp only [vcs, eqV, nilV, Option.map_some, Nat.mul_one, implies_true, true_and, and_true, and_self]
    refine conv_run rfl ((hz.keep ((hf42.trans hf50).trans hf109)).bytes) ?_
    simp only [vcs, eqV, nilV, Option.map_some, Nat.mul_one, implies_true, true_and, and_true, and_self, decide_true]
    exact hF50.trans hf109
set_option maxRecDepth 20000 in
set_option maxHeartbeats 1000000 in
theorem back4_c {seq last bits : Nat} {any : Bool} {ms : List Msg} {p q : Option Addr} {c e : Nat} {ys : List Int} (hH : Halves w) (hs : seq < 65536) (hl : last < 65536) (hbt : bits < 4294967296) (hin : In w p ms) (hnc : ms.length ≤ c)
    (hb : BytesAt w q ys) (hy : ∀ y ∈ ys, 0 ≤ y ∧ y < 256) (hne : ys.length ≤ e) :
    callV Tryd.prog 4 [.int .u16 seq, .bool any, .int .u16 last, .int .u32 bits, .slice p ms.length c, .slice q ys.length e] w fun v w' => v = .bool true ∧ Fm none' w w' := by
  refine vc4 seq any last bits p ms.length c q ys.length e w _ ?_
  refine (shown8_c hH).mono ?_
  rintro _ w1 ⟨rfl, hf1⟩
  simp only [vcs, eqV, nilV, Option.map_some, Nat.mul_one, implies_true, true_and, and_true, and_self]
  have hin1 : In w1 p ms := hin.keep hf1
  refine (few9_c hin1 hnc).mono ?_
  rintro v3 w4 ⟨hown4, hf4⟩
  obtain ⟨pm, cm, rfl, hms4⟩ := hown4.at
  obtain ⟨hMok, -⟩ := few_ok hin.ok
  obtain ⟨M, hM⟩ : ∃ M, M = fewM ms := ⟨_, rfl⟩
  have hMl : M.length ≤ 20 := by rw [hM]; exact few_len ms
  rw [← hM] at hms4 hMok hown4 ⊢
  simp only [vcs, eqV, nilV, Option.map_some, Nat.mul_one, implies_true, true_and, and_true, and_self]
  have hF4 := hf1.trans hf4
  refine cut_bytes (k := 2000) (hb.keep hF4 fun _ _ => id) hne (by omega) fun qb eb w19 hbz hf19 => ?_
  obtain ⟨zs, hzs⟩ : ∃ zs, zs = ys.take 2000 := ⟨_, rfl⟩
  have hzl : zs.length ≤ 2000 := by rw [hzs, List.length_take]; omega
  have hzr : ∀ y ∈ zs, 0 ≤ y ∧ y < 256 := fun y h => hy y (List.mem_of_mem_take (hzs ▸ h))
  rw [← hzs] at hbz ⊢
  simp only [vcs, eqV, nilV, Option.map_some, Nat.mul_one, implies_true, true_and, and_true, and_self]
  have hF19 := hF4.trans hf19
  have hd : Dok ⟨seq, any, last, bits, M⟩ := ⟨hs, hl, hbt⟩
  have hms19 := hms4.keep (N := w4.heap.size) hf19 fun _ _ => id
  refine (encode10_c (d := ⟨seq, any, last, bits, M⟩) (p := pm) (c := cm) (hH.keep hF19 id) hd hms19 hf19.size hMok).mono ?_
  rintro _ w24 ⟨qx, ex, rfl, hox, hf24⟩
  simp only [vcs, eqV, nilV, Option.map_some, Nat.mul_one, implies_true, true_and, and_true, and_self, List.getElem?_toArray, List.getElem?_cons_zero, List.getElem?_cons_succ]
  have hF24 := hF19.trans hf24
  obtain ⟨E, hE⟩ : ∃ E, E = encD ⟨seq, any, last, bits, M⟩ := ⟨_, rfl⟩
  rw [← hE] at hox ⊢
  have half : ∀ (w' : World), Fm none' w w' → Fm none' w24 w' → backK zs qb eb w' fun v w' => v = .bool true ∧ Fm none' w w' := fun w' hf hf' => backK_of hH hf (hbz.keep (hf24.trans hf')) hzr hzl
  refine br_dec (fun he => ?_) (fun he => ?_)
  · have hdec := dec_encD hd hMok (hE ▸ he)
    have hEr := encD_r ⟨seq, any, last, bits, M⟩
    rw [← hE] at hdec hEr
    refine (decode12_c (c := ex) (hH.keep hF24 id) (BytesAt.of_own hox) hEr.1 (by omega) (own_cap' hox)).mono ?_
    rintro _ w34 ⟨q1, c1, rfl, ho1, hf34⟩
    rw [hdec] at ho1 ⊢
    simp only [vcs, eqV, nilV, Option.map_some, Nat.mul_one, implies_true, true_and, and_true, and_self, List.getElem?_toArray, List.getElem?_cons_zero, List.getElem?_cons_succ]
    refine lay_dg rfl fun D1 w42 hD1 hb42 hf42 => ?_
    have hF42 := hF24.trans (hf34.trans hf42)
    have k0 : w42.cell? ⟨D1, 0, none⟩ = some (.int .u16 seq) := cellOf hb42 rfl
    have k1 : w42.cell? ⟨D1, 1, none⟩ = some (.bool any) := cellOf hb42 rfl
    have k2 : w42.cell? ⟨D1, 2, none⟩ = some (.int .u16 last) := cellOf hb42 rfl
    have k3 : w42.cell? ⟨D1, 3, none⟩ = some (.int .u32 bits) := cellOf hb42 rfl
    have k4 : w42.cell? ⟨D1, 4, none⟩ = some (.slice q1 M.length c1) := cellOf hb42 rfl
    simp only [k0, k1, k2, k3, k4, decide_true, Bool.not_true, vcs, eqV, nilV, Option.map_some, Nat.mul_one, implies_true, true_and, and_true, and_self]
    obtain ⟨_, _, e1, m1⟩ := (ho1.keep hf42 fun _ _ _ _ _ _ => id).at
    cases e1
    have m2 : MsgsAt w42 w4.heap.size pm M := (hms19.keep hf24 fun _ _ => id).keep (hf34.trans hf42) fun _ _ => id
    have hrb : ∀ m ∈ M, ∀ y ∈ m.bytes, 0 ≤ y ∧ y < 256 := fun m hm => (hMok.ok m hm).bytes
    refine (same14_c (cp := c1) (cq := cm) m1 m2 hrb hrb (by show M.length ≤ 1000000000; omega)).mono ?_
    rintro _ w56 ⟨rfl, hf56⟩
    simp only [decide_true, Bool.not_true, vcs, eqV, nilV, Option.map_some, Nat.mul_one, implies_true, true_and, and_true, and_self]
    refine br_dec (fun h => absurd hEr.2 (by omega)) (fun _ => ?_)
    exact half w56 (hF42.trans hf56) ((hf34.trans hf42).trans hf56)
  · exact half w24 hF24 (Fm.refl _ _)
end Go.Proofs.YtipikchkbmgloaaDoor
