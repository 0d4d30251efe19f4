/- bind: how far numbers lie from each other, who is in reach, and what drop does.  Conditions: the maps lie as they are said to lie. -/
import Derived.Test.YtfdbojnikoonbaaC0
import Derived.Test.YtfdbojnikoonbaaIter
namespace Go.Proofs.Ytfdbojnikoonbaa
set_option linter.unusedSimpArgs false
set_option linter.unusedVariables false
open Go Go.RowKit VC
/-- How far a lies ahead of b, of numbers of sixteen bits. -/
def dist (a b : Int) : Int := IntKind.i64.wrap (IntKind.i16.wrap (IntKind.u16.wrap (a - b)))
def newer (a b : Int) : Bool := decide (0 < dist a b)
def reach (newest p : Int) : Bool := newer p newest || (decide (0 ≤ dist newest p) && decide (dist newest p < 64))
theorem dist20_c (a b : Int) (w : World) : callV Try.prog 20 [.int .u16 a, .int .u16 b] w fun v w' => v = .int .i64 (dist a b) ∧ w' = w := vc20 a b w _ ⟨rfl, rfl⟩
theorem newer17_c (a b : Int) (w : World) : callV Try.prog 17 [.int .u16 a, .int .u16 b] w fun v w' => v = .bool (newer a b) ∧ w' = w := by
  refine vc17 a b w _ ((dist20_c a b w).mono ?_)
  rintro _ w1 ⟨rfl, rfl⟩
  simp only [isB_i, isK_i, isP_i, isTup_i, isInt_i, isSl_i, isPtr_i, isCs_i, isStr_i, isFn_i, isIf_i, rd_i, br_t, br_f, orO_s, orO_n, gd_t, bv_add, bv_sub, bv_mul, bv_eql, bv_neq, bv_lss, bv_leq, bv_gtr, bv_geq, bv_quo, bv_rem, bv_shl, bv_shr, bv_seq, bv_sne, bv_ptr, bv_if, bv_map, bv_nf, bv_bool, bv_sl, bv_fn, uv_not, uv_neg, eqV, nilV, nc_ptr, nc_fn, nc_if, Option.map_some, toN, Nat.mul_one, implies_true, true_and, and_true, and_self]
  rfl
def clientRow (newest : Int) (I : Nat) : Obj := .cells #[.int .u16 newest, .map (some I)] 47 (0, 0)
theorem reach15_c {A I : Nat} {newest : Int} (p : Int) {w : World} (h : w.heap[A]? = some (clientRow newest I)) : callV Try.prog 15 [.pointer (some ⟨A, 0, none⟩), .int .u16 p] w fun v w' => v = .bool (reach newest p) ∧ w' = w := by
  refine vc15 ⟨A, 0, none⟩ p w _ (rd_of (v := .int .u16 newest) (cellOf h rfl) ?_)
  simp only [isB_i, isK_i, isP_i, isTup_i, isInt_i, isSl_i, isPtr_i, isCs_i, isStr_i, isFn_i, isIf_i, rd_i, br_t, br_f, orO_s, orO_n, gd_t, bv_add, bv_sub, bv_mul, bv_eql, bv_neq, bv_lss, bv_leq, bv_gtr, bv_geq, bv_quo, bv_rem, bv_shl, bv_shr, bv_seq, bv_sne, bv_ptr, bv_if, bv_map, bv_nf, bv_bool, bv_sl, bv_fn, uv_not, uv_neg, eqV, nilV, nc_ptr, nc_fn, nc_if, Option.map_some, toN, Nat.mul_one, implies_true, true_and, and_true, and_self]
  refine (dist20_c _ _ _).mono ?_
  rintro _ w1 ⟨rfl, rfl⟩
  simp only [isB_i, isK_i, isP_i, isTup_i, isInt_i, isSl_i, isPtr_i, isCs_i, isStr_i, isFn_i, isIf_i, rd_i, br_t, br_f, orO_s, orO_n, gd_t, bv_add, bv_sub, bv_mul, bv_eql, bv_neq, bv_lss, bv_leq, bv_gtr, bv_geq, bv_quo, bv_rem, bv_shl, bv_shr, bv_seq, bv_sne, bv_ptr, bv_if, bv_map, bv_nf, bv_bool, bv_sl, bv_fn, uv_not, uv_neg, eqV, nilV, nc_ptr, nc_fn, nc_if, Option.map_some, toN, Nat.mul_one, implies_true, true_and, and_true, and_self]
  refine rd_of (v := .int .u16 newest) (cellOf h rfl) ?_
  simp only [isB_i, isK_i, isP_i, isTup_i, isInt_i, isSl_i, isPtr_i, isCs_i, isStr_i, isFn_i, isIf_i, rd_i, br_t, br_f, orO_s, orO_n, gd_t, bv_add, bv_sub, bv_mul, bv_eql, bv_neq, bv_lss, bv_leq, bv_gtr, bv_geq, bv_quo, bv_rem, bv_shl, bv_shr, bv_seq, bv_sne, bv_ptr, bv_if, bv_map, bv_nf, bv_bool, bv_sl, bv_fn, uv_not, uv_neg, eqV, nilV, nc_ptr, nc_fn, nc_if, Option.map_some, toN, Nat.mul_one, implies_true, true_and, and_true, and_self]
  refine (newer17_c _ _ _).mono ?_
  rintro _ w1 ⟨rfl, rfl⟩
  simp only [isB_i, isK_i, isP_i, isTup_i, isInt_i, isSl_i, isPtr_i, isCs_i, isStr_i, isFn_i, isIf_i, rd_i, br_t, br_f, orO_s, orO_n, gd_t, bv_add, bv_sub, bv_mul, bv_eql, bv_neq, bv_lss, bv_leq, bv_gtr, bv_geq, bv_quo, bv_rem, bv_shl, bv_shr, bv_seq, bv_sne, bv_ptr, bv_if, bv_map, bv_nf, bv_bool, bv_sl, bv_fn, uv_not, uv_neg, eqV, nilV, nc_ptr, nc_fn, nc_if, Option.map_some, toN, Nat.mul_one, implies_true, true_and, and_true, and_self]
  cases hn : newer p newest with
  | true => simp [br, reach, hn]
  | false =>
    simp only [br]
    cases h : decide (0 ≤ dist newest p) <;> simp [reach, hn, h]
/-- What goes: g says so. -/
def left (g : Int → Bool) (todo : List Int) (l : List (Int × Int)) : List (Int × Int) := l.filter fun p => !g p.1 || decide (p.1 ∈ todo)
def idsLeft (g : Int → Bool) (todo : List Int) (l : List (Int × Int)) (m : List (Int × Bool)) : List (Int × Bool) := m.filter fun q => !l.any fun p => decide (p.2 = q.1) && (g p.1 && !decide (p.1 ∈ todo))
theorem delM_filter {α : Type} {k : Int} : ∀ {l : List (Int × α)}, (l.map (·.1)).Nodup → delM k l = l.filter fun p => decide (p.1 ≠ k) := by
  intro l
  induction l with
  | nil => intro _; rfl
  | cons p l ih =>
    intro hn
    simp only [List.map_cons, List.nodup_cons] at hn
    simp only [delM]
    split
    · rename_i h
      rw [List.filter_cons_of_neg (by simp [h]), List.filter_eq_self.2]
      intro q hq
      have : q.1 ≠ k := fun e => hn.1 (by rw [← h, ← e]; exact List.mem_map_of_mem hq)
      simpa using this
    · rename_i h
      rw [List.filter_cons_of_pos (by simpa using fun e => h e.symm), ih hn.2]
theorem left_step {g : Int → Bool} {todo : List Int} {l : List (Int × Int)} {k : Int} (hn : (l.map (·.1)).Nodup) : (g k = true → delM k (left g todo l) = left g (todo.filter fun x => decide (x ≠ k)) l) ∧ (g k = false → left g todo l = left g (todo.filter fun x => decide (x ≠ k)) l) := by
  have hsub : ((left g todo l).map (·.1)).Nodup := hn.sublist ((List.filter_sublist (l := l)).map _)
  constructor
  · intro hg
    rw [delM_filter hsub]
    simp only [left, List.filter_filter]
    refine List.filter_congr fun p _ => ?_
    by_cases hp : p.1 = k
    · simp [hp, hg]
    · simp [hp]
  · intro hg
    refine List.filter_congr fun p _ => ?_
    by_cases hp : p.1 = k
    · simp [hp, hg]
    · simp [hp]
theorem ids_step {g : Int → Bool} {todo : List Int} {l : List (Int × Int)} {m : List (Int × Bool)} {k v : Int} (hn : (l.map (·.1)).Nodup) (hm : (m.map (·.1)).Nodup) (hk : k ∈ todo) (hkv : (k, v) ∈ l) :
    (g k = true → delM v (idsLeft g todo l m) = idsLeft g (todo.filter fun x => decide (x ≠ k)) l m) ∧ (g k = false → idsLeft g todo l m = idsLeft g (todo.filter fun x => decide (x ≠ k)) l m) := by
  have hsub : ((idsLeft g todo l m).map (·.1)).Nodup := hm.sublist ((List.filter_sublist (l := m)).map _)
  have hkey : ∀ p ∈ l, p.1 = k → p.2 = v := fun p hp e => by
    have h1 := getM_at hn hkv
    have h2 := getM_at (k := k) (v := p.2) hn (by rw [← e]; exact hp)
    rw [h1] at h2
    exact (Option.some.inj h2).symm
  constructor
  · intro hg
    rw [delM_filter hsub]
    simp only [idsLeft, List.filter_filter]
    refine List.filter_congr fun q _ => ?_
    rw [Bool.eq_iff_iff]
    simp only [ne_eq, decide_not, Bool.and_eq_true, Bool.not_eq_true', decide_eq_false_iff_not, List.any_eq_false, not_and, List.mem_filter, decide_eq_true_eq]
    constructor
    · rintro ⟨h1, h2⟩ p hp h3 h4 h5
      exact h2 p hp h3 h4 fun h6 => h5 h6 fun e => h1 (h3 ▸ hkey p hp e)
    · intro h
      refine ⟨fun e => ?_, fun p hp h3 h4 h5 => h p hp h3 h4 fun h6 => absurd h6 h5⟩
      exact h (k, v) hkv e.symm hg (by simp)
  · intro hg
    refine List.filter_congr fun q _ => ?_
    congr 1
    rw [Bool.eq_iff_iff]
    simp only [List.any_eq_true]
    have : ∀ p : Int × Int, (g p.1 && !decide (p.1 ∈ todo)) = (g p.1 && !decide (p.1 ∈ todo.filter fun x => decide (x ≠ k))) := by
      intro p
      by_cases hp : p.1 = k
      · simp [hp, hg]
      · simp [hp]
    simp only [this]
variable {w : World} {T MC MI I : Nat} {l : List (Int × Int)} {m : List (Int × Bool)} {g : Int → Bool}
set_option maxRecDepth 20000 in
/-- maps.DeleteFunc of a client's numbers with drop's closure: goes is a function that answers g and turns nothing. -/
theorem del22_c (c0 c1 : Nat) (fn : Fn) (n : Nat) (fst cpt : Array Value) (Pw : World → Prop)
    (hfn : fnId fn = some n)
    (hl : MapAt (Value.int .i64) .u16 w I l) (hm : MapAt Value.bool .i64 w MI m) (hne : I ≠ MI)
    (hT : w.heap[T]? = some (.cells #[.map (some MC), .map (some MI)] 43 (0, 0)))
    (h0 : w.heap[c0]? = some (.cells #[.func fn fst cpt] 49 (0, 0))) (h1 : w.heap[c1]? = some (.cells #[.pointer (some ⟨T, 0, none⟩)] 24 (0, 0)))
    (hP : Pw w) (hPk : ∀ w1 w2, Pw w1 → Fm (fun i => i = I ∨ i = MI ∨ w.heap.size ≤ i) w1 w2 → Pw w2)
    (hG : ∀ w' k, Pw w' → callV Try.prog n (fst.toList ++ [.int .u16 k] ++ cpt.toList) w' fun v w'' => v = .bool (g k) ∧ w'' = w') :
    callV Try.prog 22 [.map (some I), .func (.func 23) #[] #[.pointer (some ⟨c0, 0, none⟩), .pointer (some ⟨c1, 0, none⟩)]] w fun v w' =>
      MapAt (Value.int .i64) .u16 w' I (left g [] l) ∧ MapAt Value.bool .i64 w' MI (idsLeft g [] l m) ∧ Fm (fun i => i = I ∨ i = MI) w w' := by
  refine vc22 (some I) _ w _ ?_
  refine range_ok (by rw [row45]) hl fun w1 hit hs hf => ?_
  have hm1 := hm.keep hf id
  have hIT : I ≠ T := by rintro rfl; obtain ⟨es, c, h, _⟩ := hl; rw [hT] at h; cases h
  have hMT : MI ≠ T := by rintro rfl; obtain ⟨es, c, h, _⟩ := hm; rw [hT] at h; cases h
  have hI0 : I ≠ c0 := by rintro rfl; obtain ⟨es, c, h, _⟩ := hl; rw [h0] at h; cases h
  have hM0 : MI ≠ c0 := by rintro rfl; obtain ⟨es, c, h, _⟩ := hm; rw [h0] at h; cases h
  have hI1 : I ≠ c1 := by rintro rfl; obtain ⟨es, c, h, _⟩ := hl; rw [h1] at h; cases h
  have hM1 : MI ≠ c1 := by rintro rfl; obtain ⟨es, c, h, _⟩ := hm; rw [h1] at h; cases h
  have hlt : T < w.heap.size ∧ c0 < w.heap.size ∧ c1 < w.heap.size ∧ I < w.heap.size ∧ MI < w.heap.size := ⟨lt_of_blk hT, lt_of_blk h0, lt_of_blk h1, lt_of_blk hl.choose_spec.choose_spec.1, lt_of_blk hm.choose_spec.choose_spec.1⟩
  have hnl := hl.nodup
  have hnm := hm.nodup
  refine ⟨fun _ w' => ∃ todo, IterAt (Value.int .i64) .u16 w' I w.heap.size (left g todo l) todo ∧ (∀ k ∈ todo, k ∈ l.map (·.1)) ∧ MapAt Value.bool .i64 w' MI (idsLeft g todo l m) ∧ Pw w' ∧ Fm (fun i => i = I ∨ i = MI) w w', fun _ w' => w'.rangeLeft I w.heap.size, ?_, ?_⟩
  · refine ⟨l.map (·.1), ?_, fun _ h => h, ?_, hPk _ _ hP (hf.mono fun i _ h => h.elim), hf.mono fun i _ h => h.elim⟩
    · rw [show left g (l.map (·.1)) l = l from List.filter_eq_self.2 fun p hp => by simp only [decide_eq_true (List.mem_map_of_mem (f := (·.1)) hp), Bool.or_true]]
      exact hit
    · rw [show idsLeft g (l.map (·.1)) l m = m from List.filter_eq_self.2 fun q hq => by
        simp only [Bool.not_eq_true', List.any_eq_false]
        intro p hp
        simp only [decide_eq_true (List.mem_map_of_mem (f := (·.1)) hp), Bool.not_true, Bool.and_false]; simp]
      exact hm1
  rintro u w5 ⟨todo, hit, hsub, hm5, hP5, hF⟩
  simp only [isB_i, isK_i, isP_i, isTup_i, isInt_i, isSl_i, isPtr_i, isCs_i, isStr_i, isFn_i, isIf_i, rd_i, br_t, br_f, orO_s, orO_n, gd_t, bv_add, bv_sub, bv_mul, bv_eql, bv_neq, bv_lss, bv_leq, bv_gtr, bv_geq, bv_quo, bv_rem, bv_shl, bv_shr, bv_seq, bv_sne, bv_ptr, bv_if, bv_map, bv_nf, bv_bool, bv_sl, bv_fn, uv_not, uv_neg, eqV, nilV, nc_ptr, nc_fn, nc_if, Option.map_some, toN, Nat.mul_one, implies_true, true_and, and_true, and_self]
  refine next_ok hit (fun h => ?_) (fun k v w8 hk hkv hit8 hlt8 hf8 hen => ?_)
  · subst h
    simp only [isB_i, isK_i, isP_i, isTup_i, isInt_i, isSl_i, isPtr_i, isCs_i, isStr_i, isFn_i, isIf_i, rd_i, br_t, br_f, orO_s, orO_n, gd_t, bv_add, bv_sub, bv_mul, bv_eql, bv_neq, bv_lss, bv_leq, bv_gtr, bv_geq, bv_quo, bv_rem, bv_shl, bv_shr, bv_seq, bv_sne, bv_ptr, bv_if, bv_map, bv_nf, bv_bool, bv_sl, bv_fn, uv_not, uv_neg, eqV, nilV, nc_ptr, nc_fn, nc_if, Option.map_some, toN, Nat.mul_one, implies_true, true_and, and_true, and_self, List.getElem?_cons_zero, List.getElem?_cons_succ]
    exact ⟨hit.map, hm5, hF⟩
  simp only [isB_i, isK_i, isP_i, isTup_i, isInt_i, isSl_i, isPtr_i, isCs_i, isStr_i, isFn_i, isIf_i, rd_i, br_t, br_f, orO_s, orO_n, gd_t, bv_add, bv_sub, bv_mul, bv_eql, bv_neq, bv_lss, bv_leq, bv_gtr, bv_geq, bv_quo, bv_rem, bv_shl, bv_shr, bv_seq, bv_sne, bv_ptr, bv_if, bv_map, bv_nf, bv_bool, bv_sl, bv_fn, uv_not, uv_neg, eqV, nilV, nc_ptr, nc_fn, nc_if, Option.map_some, toN, Nat.mul_one, implies_true, true_and, and_true, and_self, List.getElem?_cons_zero, List.getElem?_cons_succ]
  refine hen _ ?_
  simp only [isB_i, isK_i, isP_i, isTup_i, isInt_i, isSl_i, isPtr_i, isCs_i, isStr_i, isFn_i, isIf_i, rd_i, br_t, br_f, orO_s, orO_n, gd_t, bv_add, bv_sub, bv_mul, bv_eql, bv_neq, bv_lss, bv_leq, bv_gtr, bv_geq, bv_quo, bv_rem, bv_shl, bv_shr, bv_seq, bv_sne, bv_ptr, bv_if, bv_map, bv_nf, bv_bool, bv_sl, bv_fn, uv_not, uv_neg, eqV, nilV, nc_ptr, nc_fn, nc_if, Option.map_some, toN, Nat.mul_one, implies_true, true_and, and_true, and_self, List.getElem?_cons_zero, List.getElem?_cons_succ]
  have hF8 : Fm (fun i => i = I ∨ i = MI) w w8 := hF.trans' hf8 (by rintro i hi rfl; omega)
  have hP8 : Pw w8 := hPk _ _ hP5 (hf8.mono fun i _ h => .inr (.inr (by omega)))
  have hkl : (k, v) ∈ l := (List.mem_filter.1 hkv).1
  have hM8 : MapAt Value.bool .i64 w8 MI (idsLeft g todo l m) := hm5.keep hf8 (by omega)
  have hst := left_step (g := g) (todo := todo) (k := k) hnl
  have hsi := ids_step (g := g) (todo := todo) hnl hnm hk hkl
  have hsub8 : ∀ x ∈ todo.filter (fun x => decide (x ≠ k)), x ∈ l.map (·.1) := fun x hx => hsub x (List.mem_filter.1 hx).1
  refine rd_of (v := 23) rfl ?_
  refine vc23 k v ⟨c0, 0, none⟩ ⟨c1, 0, none⟩ w8 _ ?_
  refine rd_of (v := .func fn fst cpt) (cellOf (hF8.keep h0 (by omega)) rfl) ?_
  simp only [isB_i, isK_i, isP_i, isTup_i, isInt_i, isSl_i, isPtr_i, isCs_i, isStr_i, isFn_i, isIf_i, rd_i, br_t, br_f, orO_s, orO_n, gd_t, bv_add, bv_sub, bv_mul, bv_eql, bv_neq, bv_lss, bv_leq, bv_gtr, bv_geq, bv_quo, bv_rem, bv_shl, bv_shr, bv_seq, bv_sne, bv_ptr, bv_if, bv_map, bv_nf, bv_bool, bv_sl, bv_fn, uv_not, uv_neg, eqV, nilV, nc_ptr, nc_fn, nc_if, Option.map_some, toN, Nat.mul_one, implies_true, true_and, and_true, and_self]
  rw [hfn]
  refine rd_of rfl ?_
  refine (hG w8 k hP8).mono ?_
  rintro _ w6 ⟨rfl, rfl⟩
  simp only [isB_i, isK_i, isP_i, isTup_i, isInt_i, isSl_i, isPtr_i, isCs_i, isStr_i, isFn_i, isIf_i, rd_i, br_t, br_f, orO_s, orO_n, gd_t, bv_add, bv_sub, bv_mul, bv_eql, bv_neq, bv_lss, bv_leq, bv_gtr, bv_geq, bv_quo, bv_rem, bv_shl, bv_shr, bv_seq, bv_sne, bv_ptr, bv_if, bv_map, bv_nf, bv_bool, bv_sl, bv_fn, uv_not, uv_neg, eqV, nilV, nc_ptr, nc_fn, nc_if, Option.map_some, toN, Nat.mul_one, implies_true, true_and, and_true, and_self]
  cases hg : g k with
  | false =>
    simp only [isB_i, isK_i, isP_i, isTup_i, isInt_i, isSl_i, isPtr_i, isCs_i, isStr_i, isFn_i, isIf_i, rd_i, br_t, br_f, orO_s, orO_n, gd_t, bv_add, bv_sub, bv_mul, bv_eql, bv_neq, bv_lss, bv_leq, bv_gtr, bv_geq, bv_quo, bv_rem, bv_shl, bv_shr, bv_seq, bv_sne, bv_ptr, bv_if, bv_map, bv_nf, bv_bool, bv_sl, bv_fn, uv_not, uv_neg, eqV, nilV, nc_ptr, nc_fn, nc_if, Option.map_some, toN, Nat.mul_one, implies_true, true_and, and_true, and_self, Bool.not_false]
    refine ⟨⟨_, by rw [← hst.2 hg]; exact hit8, hsub8, by rw [← hsi.2 hg]; exact hM8, hP8, hF8⟩, hlt8⟩
  | true =>
    simp only [isB_i, isK_i, isP_i, isTup_i, isInt_i, isSl_i, isPtr_i, isCs_i, isStr_i, isFn_i, isIf_i, rd_i, br_t, br_f, orO_s, orO_n, gd_t, bv_add, bv_sub, bv_mul, bv_eql, bv_neq, bv_lss, bv_leq, bv_gtr, bv_geq, bv_quo, bv_rem, bv_shl, bv_shr, bv_seq, bv_sne, bv_ptr, bv_if, bv_map, bv_nf, bv_bool, bv_sl, bv_fn, uv_not, uv_neg, eqV, nilV, nc_ptr, nc_fn, nc_if, Option.map_some, toN, Nat.mul_one, implies_true, true_and, and_true, and_self, Bool.not_true]
    refine rd_of (v := .pointer (some ⟨T, 0, none⟩)) (cellOf (hF8.keep h1 (by omega)) rfl) ?_
    simp only [isB_i, isK_i, isP_i, isTup_i, isInt_i, isSl_i, isPtr_i, isCs_i, isStr_i, isFn_i, isIf_i, rd_i, br_t, br_f, orO_s, orO_n, gd_t, bv_add, bv_sub, bv_mul, bv_eql, bv_neq, bv_lss, bv_leq, bv_gtr, bv_geq, bv_quo, bv_rem, bv_shl, bv_shr, bv_seq, bv_sne, bv_ptr, bv_if, bv_map, bv_nf, bv_bool, bv_sl, bv_fn, uv_not, uv_neg, eqV, nilV, nc_ptr, nc_fn, nc_if, Option.map_some, toN, Nat.mul_one, implies_true, true_and, and_true, and_self]
    refine rd_of (v := .map (some MI)) (cellOf (hF8.keep hT (fun h => h.elim (fun e => hIT e.symm) fun e => hMT e.symm)) rfl) ?_
    refine delete_ok (by rw [row41]) (by rw [row3]) hM8 fun w14 hM14 hf14 => ?_
    have hit14 := hit8.keep hf14 (by omega) (by omega)
    refine delete_it (by rw [row45]) (by rw [row26]) hit14 (by simp) fun w28 hit28 hf28 => ?_
    have hl28 : w28.rangeLeft I w.heap.size < w5.rangeLeft I w.heap.size := by rw [hit28.left, ← hit8.left]; exact hlt8
    refine ⟨⟨_, by rw [← hst.1 hg]; exact hit28, hsub8, by rw [← hsi.1 hg]; exact hM14.keep hf28 (by omega), hPk _ _ (hPk _ _ hP8 (hf14.mono fun i _ h => .inr (.inl h))) (hf28.mono fun i _ h => .inl h), (hF8.trans (hf14.mono fun i _ h => .inr h)).trans (hf28.mono fun i _ h => .inl h)⟩, hl28⟩
end Go.Proofs.Ytfdbojnikoonbaa
