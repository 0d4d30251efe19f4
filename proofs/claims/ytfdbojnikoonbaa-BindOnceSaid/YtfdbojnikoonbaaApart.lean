/- BindApart comes to true and turns nothing that was there.  Conditions: the argument's cells hold operations. -/
import Derived.Test.YtfdbojnikoonbaaPlain
import Derived.Test.YtfdbojnikoonbaaC2
namespace Go.Proofs.Ytfdbojnikoonbaa
set_option linter.unusedSimpArgs false
set_option linter.unusedVariables false
open Go Go.RowKit VC
def doesS (s : St) (kd who p nid : Int) : Int × St :=
  if kd = 0 ∨ kd = 1 ∨ kd = 2 then bindS s who p nid else if kd = 3 then denyS s who p else if kd = 5 then (0, forgetS s who) else (0, s)
variable {w : World} {T : Nat} {s s' : St} {B : Nat → Prop}
theorem Stp.after {w0 w w' : World} {T : Nat} {r v : Value} {s' : St} (hf : Fm none' w0 w) (h : Stp B w T r s' v w') : Stp B w0 T r s' v w' :=
  ⟨h.1, h.2.1.mono fun i x => x.imp id fun y => by have := hf.size; omega, (hf.mono fun i _ x => x.elim).trans h.2.2⟩
set_option maxRecDepth 20000 in
theorem does13_c (kd who p nid : Int) (h : TabAt w B T s) : callV Try.prog 13 [.pointer (some ⟨T, 0, none⟩), .agg #[.int .i64 kd, .int .i64 who, .int .u16 p, .int .i64 nid]] w (Stp B w T (.int .i64 (doesS s kd who p nid).1) (doesS s kd who p nid).2) := by
  refine vc13 ⟨T, 0, none⟩ kd who p nid w _ ?_
  refine allocC_of fun w1 hb hs hf => ?_
  have hT := h.keep hf fun _ x => x.elim
  refine rd_of (v := .int .i64 kd) (cellOf hb rfl) ?_
  simp only [isB_i, isK_i, isP_i, isTup_i, isInt_i, isSl_i, isPtr_i, isCs_i, isStr_i, isFn_i, isIf_i, rd_i, br_t, br_f, orO_s, orO_n, gd_t, bv_add, bv_sub, bv_mul, bv_eql, bv_neq, bv_lss, bv_leq, bv_gtr, bv_geq, bv_quo, bv_rem, bv_shl, bv_shr, bv_seq, bv_sne, bv_ptr, bv_if, bv_map, bv_nf, bv_bool, bv_sl, bv_fn, uv_not, uv_neg, eqV, nilV, nc_ptr, nc_fn, nc_if, Option.map_some, toN, Nat.mul_one, implies_true, true_and, and_true, and_self]
  unfold doesS
  have one : rd (World.cell? w1 ⟨w.heap.size, 1, none⟩) fun v4 => isK .i64 v4 fun i5 => rd (World.cell? w1 ⟨w.heap.size, 2, none⟩) fun v6 => isK .u16 v6 fun i7 => rd (World.cell? w1 ⟨w.heap.size, 3, none⟩) fun v8 => isK .i64 v8 fun i9 =>
      callV Try.prog 9 [.pointer (some ⟨T, 0, none⟩), .int .i64 i5, .int .u16 i7, .int .i64 i9] w1 fun v10 w11 => isK .i64 v10 fun i12 => Stp B w T (.int .i64 (bindS s who p nid).1) (bindS s who p nid).2 (.int .i64 i12) w11 := by
    refine rd_of (v := .int .i64 who) (cellOf hb rfl) ?_
    simp only [isB_i, isK_i, isP_i, isTup_i, isInt_i, isSl_i, isPtr_i, isCs_i, isStr_i, isFn_i, isIf_i, rd_i, br_t, br_f, orO_s, orO_n, gd_t, bv_add, bv_sub, bv_mul, bv_eql, bv_neq, bv_lss, bv_leq, bv_gtr, bv_geq, bv_quo, bv_rem, bv_shl, bv_shr, bv_seq, bv_sne, bv_ptr, bv_if, bv_map, bv_nf, bv_bool, bv_sl, bv_fn, uv_not, uv_neg, eqV, nilV, nc_ptr, nc_fn, nc_if, Option.map_some, toN, Nat.mul_one, implies_true, true_and, and_true, and_self]
    refine rd_of (v := .int .u16 p) (cellOf hb rfl) ?_
    simp only [isB_i, isK_i, isP_i, isTup_i, isInt_i, isSl_i, isPtr_i, isCs_i, isStr_i, isFn_i, isIf_i, rd_i, br_t, br_f, orO_s, orO_n, gd_t, bv_add, bv_sub, bv_mul, bv_eql, bv_neq, bv_lss, bv_leq, bv_gtr, bv_geq, bv_quo, bv_rem, bv_shl, bv_shr, bv_seq, bv_sne, bv_ptr, bv_if, bv_map, bv_nf, bv_bool, bv_sl, bv_fn, uv_not, uv_neg, eqV, nilV, nc_ptr, nc_fn, nc_if, Option.map_some, toN, Nat.mul_one, implies_true, true_and, and_true, and_self]
    refine rd_of (v := .int .i64 nid) (cellOf hb rfl) ?_
    simp only [isB_i, isK_i, isP_i, isTup_i, isInt_i, isSl_i, isPtr_i, isCs_i, isStr_i, isFn_i, isIf_i, rd_i, br_t, br_f, orO_s, orO_n, gd_t, bv_add, bv_sub, bv_mul, bv_eql, bv_neq, bv_lss, bv_leq, bv_gtr, bv_geq, bv_quo, bv_rem, bv_shl, bv_shr, bv_seq, bv_sne, bv_ptr, bv_if, bv_map, bv_nf, bv_bool, bv_sl, bv_fn, uv_not, uv_neg, eqV, nilV, nc_ptr, nc_fn, nc_if, Option.map_some, toN, Nat.mul_one, implies_true, true_and, and_true, and_self]
    refine (bind9_c who p nid hT).mono ?_
    rintro _ w2 ⟨rfl, h2⟩
    simp only [isB_i, isK_i, isP_i, isTup_i, isInt_i, isSl_i, isPtr_i, isCs_i, isStr_i, isFn_i, isIf_i, rd_i, br_t, br_f, orO_s, orO_n, gd_t, bv_add, bv_sub, bv_mul, bv_eql, bv_neq, bv_lss, bv_leq, bv_gtr, bv_geq, bv_quo, bv_rem, bv_shl, bv_shr, bv_seq, bv_sne, bv_ptr, bv_if, bv_map, bv_nf, bv_bool, bv_sl, bv_fn, uv_not, uv_neg, eqV, nilV, nc_ptr, nc_fn, nc_if, Option.map_some, toN, Nat.mul_one, implies_true, true_and, and_true, and_self]
    exact Stp.after hf ⟨rfl, h2⟩
  refine br_dec (fun h0 => ?_) (fun h0 => ?_)
  · rw [if_pos (.inl h0)]; exact one
  refine br_dec (fun h1 => ?_) (fun h1 => ?_)
  · rw [if_pos (.inr (.inl h1))]; exact one
  refine br_dec (fun h2 => ?_) (fun h2 => ?_)
  · rw [if_pos (.inr (.inr h2))]; exact one
  rw [if_neg (by omega)]
  refine br_dec (fun h3 => ?_) (fun h3 => ?_)
  · rw [if_pos h3]
    refine rd_of (v := .int .i64 who) (cellOf hb rfl) ?_
    simp only [isB_i, isK_i, isP_i, isTup_i, isInt_i, isSl_i, isPtr_i, isCs_i, isStr_i, isFn_i, isIf_i, rd_i, br_t, br_f, orO_s, orO_n, gd_t, bv_add, bv_sub, bv_mul, bv_eql, bv_neq, bv_lss, bv_leq, bv_gtr, bv_geq, bv_quo, bv_rem, bv_shl, bv_shr, bv_seq, bv_sne, bv_ptr, bv_if, bv_map, bv_nf, bv_bool, bv_sl, bv_fn, uv_not, uv_neg, eqV, nilV, nc_ptr, nc_fn, nc_if, Option.map_some, toN, Nat.mul_one, implies_true, true_and, and_true, and_self]
    refine rd_of (v := .int .u16 p) (cellOf hb rfl) ?_
    simp only [isB_i, isK_i, isP_i, isTup_i, isInt_i, isSl_i, isPtr_i, isCs_i, isStr_i, isFn_i, isIf_i, rd_i, br_t, br_f, orO_s, orO_n, gd_t, bv_add, bv_sub, bv_mul, bv_eql, bv_neq, bv_lss, bv_leq, bv_gtr, bv_geq, bv_quo, bv_rem, bv_shl, bv_shr, bv_seq, bv_sne, bv_ptr, bv_if, bv_map, bv_nf, bv_bool, bv_sl, bv_fn, uv_not, uv_neg, eqV, nilV, nc_ptr, nc_fn, nc_if, Option.map_some, toN, Nat.mul_one, implies_true, true_and, and_true, and_self]
    refine (deny12_c who p hT).mono ?_
    rintro _ w2 ⟨rfl, h2⟩
    simp only [isB_i, isK_i, isP_i, isTup_i, isInt_i, isSl_i, isPtr_i, isCs_i, isStr_i, isFn_i, isIf_i, rd_i, br_t, br_f, orO_s, orO_n, gd_t, bv_add, bv_sub, bv_mul, bv_eql, bv_neq, bv_lss, bv_leq, bv_gtr, bv_geq, bv_quo, bv_rem, bv_shl, bv_shr, bv_seq, bv_sne, bv_ptr, bv_if, bv_map, bv_nf, bv_bool, bv_sl, bv_fn, uv_not, uv_neg, eqV, nilV, nc_ptr, nc_fn, nc_if, Option.map_some, toN, Nat.mul_one, implies_true, true_and, and_true, and_self]
    exact Stp.after hf ⟨rfl, h2⟩
  rw [if_neg h3]
  refine br_dec (fun h5 => ?_) (fun h5 => ?_)
  · rw [if_pos h5]
    refine rd_of (v := .int .i64 who) (cellOf hb rfl) ?_
    simp only [isB_i, isK_i, isP_i, isTup_i, isInt_i, isSl_i, isPtr_i, isCs_i, isStr_i, isFn_i, isIf_i, rd_i, br_t, br_f, orO_s, orO_n, gd_t, bv_add, bv_sub, bv_mul, bv_eql, bv_neq, bv_lss, bv_leq, bv_gtr, bv_geq, bv_quo, bv_rem, bv_shl, bv_shr, bv_seq, bv_sne, bv_ptr, bv_if, bv_map, bv_nf, bv_bool, bv_sl, bv_fn, uv_not, uv_neg, eqV, nilV, nc_ptr, nc_fn, nc_if, Option.map_some, toN, Nat.mul_one, implies_true, true_and, and_true, and_self]
    refine (forget16_c who hT).mono ?_
    rintro _ w2 ⟨rfl, h2⟩
    exact Stp.after hf ⟨rfl, h2⟩
  · rw [if_neg h5]
    exact ⟨rfl, hT.mono fun i x => .inl x, hf.none⟩
/-! ### The plain law -/
theorem bindS_used {who p nid k : Int} (h : k ∈ (bindS s who p nid).2.used.map (·.1)) : k = nid ∨ k ∈ s.used.map (·.1) := by
  unfold bindS at h
  split at h
  · exact .inr h
  · split at h
    · exact putS_used _ _ _ _ h
    · exact .inr h
theorem dropS_used {g : Int → Bool} {who k : Int} {c : Cl} (h : k ∈ (dropS g who c s).used.map (·.1)) : k ∈ s.used.map (·.1) := (List.filter_sublist.map _).subset h
theorem putS_used0 {who p k : Int} (h : k ∈ (putS s who p 0).used.map (·.1)) : k ∈ s.used.map (·.1) := by
  have h1 : k ∈ (usedS s 0).map (·.1) := by
    unfold putS at h
    split at h
    · exact dropS_used (who := who) h
    · exact h
  exact h1
theorem denyS_used {who p k : Int} (h : k ∈ (denyS s who p).2.used.map (·.1)) : k ∈ s.used.map (·.1) := by
  unfold denyS at h
  split at h
  · exact putS_used0 h
  · exact h
theorem forgetS_used {who k : Int} (h : k ∈ (forgetS s who).used.map (·.1)) : k ∈ s.used.map (·.1) := by
  unfold forgetS at h
  split at h
  · exact h
  · rename_i c _; exact dropS_used (g := fun _ => true) (who := who) (c := c) h
theorem does_used {kd who p nid k : Int} (h : k ∈ (doesS s kd who p nid).2.used.map (·.1)) : k = nid ∨ k ∈ s.used.map (·.1) := by
  unfold doesS at h
  split at h
  · exact bindS_used h
  · split at h
    · exact .inr (denyS_used h)
    · split at h
      · exact .inr (forgetS_used h)
      · exact .inr h
theorem getM_delM {α : Type} {k j : Int} {l : List (Int × α)} (hn : (l.map (·.1)).Nodup) : getM j (delM k l) = if j = k then none else getM j l := by
  rw [delM_filter hn, getM_filter (f := fun x => decide (x ≠ k))]
  by_cases h : j = k <;> simp [h]
theorem forget_get {who j : Int} (hn : (s.cs.map (·.1)).Nodup) : getM j (forgetS s who).cs = if j = who then none else getM j s.cs := by
  unfold forgetS
  cases hc : getM who s.cs with
  | none =>
    by_cases h : j = who
    · subst h; simp [hc]
    · simp [h]
  | some c =>
    simp only [dropS]
    rw [getM_delM (by rw [setM_keys hc]; exact hn), getM_setM]
    by_cases h : j = who <;> simp [h]
theorem does_other {kd who p nid j : Int} (hn : (s.cs.map (·.1)).Nodup) (hj : j ≠ who) : getM j (doesS s kd who p nid).2.cs = getM j s.cs := by
  have hp : ∀ id, getM j (putS s who p id).cs = getM j s.cs := fun id => by rw [putS_get, if_neg hj]
  unfold doesS
  split
  · unfold bindS
    split
    · rfl
    · split
      · exact hp _
      · rfl
  · split
    · unfold denyS
      split
      · exact hp _
      · rfl
    · split
      · show getM j (forgetS s who).cs = _
        rw [forget_get hn, if_neg hj]
      · rfl
theorem does_same {kd who p nid : Int} (hn : (s.cs.map (·.1)).Nodup) (hn' : (s'.cs.map (·.1)).Nodup) (h : getM who s.cs = getM who s'.cs) (hf : ∀ k ∈ s.used.map (·.1), k ≠ nid) (hf' : ∀ k ∈ s'.used.map (·.1), k ≠ nid) :
    (doesS s kd who p nid).1 = (doesS s' kd who p nid).1 ∧ getM who (doesS s kd who p nid).2.cs = getM who (doesS s' kd who p nid).2.cs := by
  have ha := askS_get s s' who p h
  have hold : oldC s who p = oldC s' who p := by unfold oldC; rw [h]
  have hp : ∀ id, getM who (putS s who p id).cs = getM who (putS s' who p id).cs := fun id => by rw [putS_get, putS_get, if_pos rfl, if_pos rfl, hold]
  unfold doesS
  split
  · unfold bindS
    rw [fresh_of hf, fresh_of hf', ha]
    split
    · exact ⟨rfl, h⟩
    · split
      · exact ⟨rfl, hp _⟩
      · exact ⟨rfl, h⟩
  · split
    · unfold denyS
      rw [ha]
      split
      · exact ⟨rfl, hp _⟩
      · exact ⟨rfl, h⟩
    · split
      · refine ⟨rfl, ?_⟩
        show getM who (forgetS s who).cs = getM who (forgetS s' who).cs
        rw [forget_get hn, forget_get hn', if_pos rfl, if_pos rfl]
      · exact ⟨rfl, h⟩
/-- Two tables apart, both beyond what was there at the start, and not at x. -/
def Two (W w : World) (x T U : Nat) (s s' : St) : Prop := ∃ Bt Bu : Nat → Prop, TabAt w Bt T s ∧ TabAt w Bu U s' ∧ (∀ i, Bt i → (W.heap.size ≤ i ∧ i < w.heap.size ∧ i ≠ x) ∧ ¬ Bu i) ∧ (∀ i, Bu i → W.heap.size ≤ i ∧ i < w.heap.size ∧ i ≠ x)
theorem Two.keys {W w : World} {x T U : Nat} (h : Two W w x T U s s') : (s.cs.map (·.1)).Nodup ∧ (s'.cs.map (·.1)).Nodup := by
  obtain ⟨Bt, Bu, ⟨_, _, _, h1, _⟩, ⟨_, _, _, h2, _⟩, _⟩ := h
  exact ⟨h1.keysOk, h2.keysOk⟩
theorem Two.keep {W w w' : World} {x T U : Nat} {S : Nat → Prop} (h : Two W w x T U s s') (f : Fm S w w') (hS : ∀ i, i < w.heap.size → S i → i = x) : Two W w' x T U s s' := by
  obtain ⟨Bt, Bu, h1, h2, h3, h4⟩ := h
  have := f.size
  exact ⟨Bt, Bu, h1.keep (S := fun i => i < w.heap.size ∧ S i) (f.mono fun i hi y => ⟨hi, y⟩) fun i y z => (h3 i z).1.2.2 (hS i y.1 y.2), h2.keep (S := fun i => i < w.heap.size ∧ S i) (f.mono fun i hi y => ⟨hi, y⟩) fun i y z => (h4 i z).2.2 (hS i y.1 y.2),
    fun i hi => ⟨⟨(h3 i hi).1.1, by have := (h3 i hi).1.2.1; omega, (h3 i hi).1.2.2⟩, (h3 i hi).2⟩, fun i hi => ⟨(h4 i hi).1, by have := (h4 i hi).2.1; omega, (h4 i hi).2.2⟩⟩
theorem Two.re {W w : World} {x x' T U : Nat} (h : Two W w x T U s s') (hx : w.heap.size ≤ x') : Two W w x' T U s s' := by
  obtain ⟨Bt, Bu, h1, h2, h3, h4⟩ := h
  exact ⟨Bt, Bu, h1, h2, fun i hi => ⟨⟨(h3 i hi).1.1, (h3 i hi).1.2.1, by have := (h3 i hi).1.2.1; omega⟩, (h3 i hi).2⟩, fun i hi => ⟨(h4 i hi).1, (h4 i hi).2.1, by have := (h4 i hi).2.1; omega⟩⟩
theorem two_t {W w : World} {x T U : Nat} (kd who p nid : Int) (h : Two W w x T U s s') (hx : x < w.heap.size) : callV Try.prog 13 [.pointer (some ⟨T, 0, none⟩), .agg #[.int .i64 kd, .int .i64 who, .int .u16 p, .int .i64 nid]] w fun v w' =>
    v = .int .i64 (doesS s kd who p nid).1 ∧ Two W w' x T U (doesS s kd who p nid).2 s' ∧ Fm (fun i => W.heap.size ≤ i ∧ i ≠ x) w w' := by
  obtain ⟨Bt, Bu, h1, h2, h3, h4⟩ := h
  refine (does13_c kd who p nid h1).mono ?_
  rintro v w' ⟨rfl, h5, h6⟩
  have hz := h6.size
  refine ⟨rfl, ⟨_, Bu, h5, h2.keep h6 fun i x => (h3 i x).2, ?_, fun i hi => ⟨(h4 i hi).1, by have := (h4 i hi).2.1; omega, (h4 i hi).2.2⟩⟩, h6.mono fun i _ x => ⟨(h3 i x).1.1, (h3 i x).1.2.2⟩⟩
  rintro i (x | ⟨x, y⟩)
  · have := h3 i x; exact ⟨⟨this.1.1, by omega, this.1.2.2⟩, this.2⟩
  · refine ⟨⟨?_, y, by omega⟩, fun z => by have := (h4 i z).2.1; omega⟩
    obtain ⟨_, _, _, hL, hB⟩ := h1
    have := h3 _ hB.1
    omega
theorem two_u {W w : World} {x T U : Nat} (kd who p nid : Int) (h : Two W w x T U s s') (hx : x < w.heap.size) : callV Try.prog 13 [.pointer (some ⟨U, 0, none⟩), .agg #[.int .i64 kd, .int .i64 who, .int .u16 p, .int .i64 nid]] w fun v w' =>
    v = .int .i64 (doesS s' kd who p nid).1 ∧ Two W w' x T U s (doesS s' kd who p nid).2 ∧ Fm (fun i => W.heap.size ≤ i ∧ i ≠ x) w w' := by
  obtain ⟨Bt, Bu, h1, h2, h3, h4⟩ := h
  refine (does13_c kd who p nid h2).mono ?_
  rintro v w' ⟨rfl, h5, h6⟩
  have hz := h6.size
  refine ⟨rfl, ⟨Bt, _, h1.keep h6 fun i x y => (h3 i y).2 x, h5, ?_, ?_⟩, h6.mono fun i _ x => ⟨(h4 i x).1, (h4 i x).2.2⟩⟩
  · intro i x
    have := h3 i x
    refine ⟨⟨this.1.1, by omega, this.1.2.2⟩, ?_⟩
    rintro (y | ⟨y, z⟩)
    · exact this.2 y
    · omega
  · rintro i (x | ⟨x, y⟩)
    · have := h4 i x; exact ⟨this.1, by omega, this.2.2⟩
    · refine ⟨?_, y, by omega⟩
      obtain ⟨_, _, _, hL, hB⟩ := h2
      have := h4 _ hB.1
      omega
theorem two_ask {W w : World} {x T U : Nat} (who p : Int) (h : Two W w x T U s s') :
    callV Try.prog 11 [.pointer (some ⟨T, 0, none⟩), .int .i64 who, .int .u16 p] w (fun v w' => v = .tuple #[.int .i64 (askS s who p).1, .int .i64 (askS s who p).2] ∧ w' = w) ∧
    callV Try.prog 11 [.pointer (some ⟨U, 0, none⟩), .int .i64 who, .int .u16 p] w (fun v w' => v = .tuple #[.int .i64 (askS s' who p).1, .int .i64 (askS s' who p).2] ∧ w' = w) := by
  obtain ⟨Bt, Bu, h1, h2, h3, h4⟩ := h
  exact ⟨ask_c who p h1, ask_c who p h2⟩
set_option maxHeartbeats 1000000 in
set_option maxRecDepth 20000 in
theorem apart_c (b : Int) (ap : Option Addr) (an ac : Nat) (K C Pv D : Nat → Int) (W : World) (hl : ∀ i, i < an → ∃ ad, ap = some ad ∧ cellsAt W (ad.add (i * 4)) 4 = some [.int .i64 (K i), .int .i64 (C i), .int .u16 (Pv i), .int .i64 (D i)]) :
    callV Try.prog 6 [.slice ap an ac, .int .i64 b] W fun v w' => v = .bool true ∧ Fm none' W w' := by
  refine vc6 ap an ac b W _ ?_
  refine (shown_c W).mono ?_
  rintro _ w1 ⟨rfl, hf1⟩
  simp only [isB_i, isK_i, isP_i, isTup_i, isInt_i, isSl_i, isPtr_i, isCs_i, isStr_i, isFn_i, isIf_i, rd_i, br_t, br_f, orO_s, orO_n, gd_t, bv_add, bv_sub, bv_mul, bv_eql, bv_neq, bv_lss, bv_leq, bv_gtr, bv_geq, bv_quo, bv_rem, bv_shl, bv_shr, bv_seq, bv_sne, bv_ptr, bv_if, bv_map, bv_nf, bv_bool, bv_sl, bv_fn, uv_not, uv_neg, eqV, nilV, nc_ptr, nc_fn, nc_if, Option.map_some, toN, Nat.mul_one, implies_true, true_and, and_true, and_self]
  refine (new8_c w1).mono ?_
  rintro _ w4 ⟨T, rfl, hT, hf4⟩
  simp only [isB_i, isK_i, isP_i, isTup_i, isInt_i, isSl_i, isPtr_i, isCs_i, isStr_i, isFn_i, isIf_i, rd_i, br_t, br_f, orO_s, orO_n, gd_t, bv_add, bv_sub, bv_mul, bv_eql, bv_neq, bv_lss, bv_leq, bv_gtr, bv_geq, bv_quo, bv_rem, bv_shl, bv_shr, bv_seq, bv_sne, bv_ptr, bv_if, bv_map, bv_nf, bv_bool, bv_sl, bv_fn, uv_not, uv_neg, eqV, nilV, nc_ptr, nc_fn, nc_if, Option.map_some, toN, Nat.mul_one, implies_true, true_and, and_true, and_self]
  refine (new8_c w4).mono ?_
  rintro _ w7 ⟨U, rfl, hU, hf7⟩
  simp only [isB_i, isK_i, isP_i, isTup_i, isInt_i, isSl_i, isPtr_i, isCs_i, isStr_i, isFn_i, isIf_i, rd_i, br_t, br_f, orO_s, orO_n, gd_t, bv_add, bv_sub, bv_mul, bv_eql, bv_neq, bv_lss, bv_leq, bv_gtr, bv_geq, bv_quo, bv_rem, bv_shl, bv_shr, bv_seq, bv_sne, bv_ptr, bv_if, bv_map, bv_nf, bv_bool, bv_sl, bv_fn, uv_not, uv_neg, eqV, nilV, nc_ptr, nc_fn, nc_if, Option.map_some, toN, Nat.mul_one, implies_true, true_and, and_true, and_self, Option.isNone_some]
  have s1 := hf1.size
  have s4 := hf4.size
  have s7 := hf7.size
  have hF7 := (hf1.trans hf4).trans hf7
  have hTw : Two W w7 w7.heap.size T U ⟨[], []⟩ ⟨[], []⟩ := ⟨_, _, hT.keep hf7 fun _ x => x.elim, hU, fun i hi => ⟨⟨by omega, by omega, by omega⟩, by omega⟩, fun i hi => ⟨by omega, by omega, by omega⟩⟩
  refine ⟨fun u w' => ∃ (k x : Nat) (s s' : St), k ≤ 150 ∧ u 8 = .int .i64 k ∧ Two W w' x T U s s' ∧ getM b s.cs = getM b s'.cs ∧ (∀ q ∈ s.used.map (·.1), q ≤ (k : Int)) ∧ (∀ q ∈ s'.used.map (·.1), q ≤ (k : Int)) ∧ Fm none' W w', fun u _ => 150 - (intOf (u 8)).toNat, ?_, ?_⟩
  · exact ⟨0, _, _, _, by omega, rfl, hTw, rfl, by simp, by simp, hF7⟩
  rintro u w12 ⟨k, x0, s, s', hk, h8, hTw, hg, hu, hu', hF⟩
  change u 8 = .int .i64 k at h8
  simp only [h8, isB_i, isK_i, isP_i, isTup_i, isInt_i, isSl_i, isPtr_i, isCs_i, isStr_i, isFn_i, isIf_i, rd_i, br_t, br_f, orO_s, orO_n, gd_t, bv_add, bv_sub, bv_mul, bv_eql, bv_neq, bv_lss, bv_leq, bv_gtr, bv_geq, bv_quo, bv_rem, bv_shl, bv_shr, bv_seq, bv_sne, bv_ptr, bv_if, bv_map, bv_nf, bv_bool, bv_sl, bv_fn, uv_not, uv_neg, eqV, nilV, nc_ptr, nc_fn, nc_if, Option.map_some, toN, Nat.mul_one, implies_true, true_and, and_true, and_self]
  refine br_dec (fun hkn => ?_) (fun hkn => hF)
  refine br_dec (fun hkn2 => ?_) (fun hkn2 => hF)
  obtain ⟨ad, rfl, hc⟩ := hl k (by omega)
  simp only [isB_i, isK_i, isP_i, isTup_i, isInt_i, isSl_i, isPtr_i, isCs_i, isStr_i, isFn_i, isIf_i, rd_i, br_t, br_f, orO_s, orO_n, gd_t, bv_add, bv_sub, bv_mul, bv_eql, bv_neq, bv_lss, bv_leq, bv_gtr, bv_geq, bv_quo, bv_rem, bv_shl, bv_shr, bv_seq, bv_sne, bv_ptr, bv_if, bv_map, bv_nf, bv_bool, bv_sl, bv_fn, uv_not, uv_neg, eqV, nilV, nc_ptr, nc_fn, nc_if, Option.map_some, toN, Nat.mul_one, implies_true, true_and, and_true, and_self]
  refine ⟨by omega, rd_of (hF.cells id hc) ?_⟩
  have hTw := hTw.re (Nat.le_refl w12.heap.size)
  refine allocC_of fun w20 hb20 hs20 hf20 => ?_
  refine rd_of (v := ()) rfl ?_
  refine stC_all hb20 rfl (by simp [Value.oneCell']) fun w21 hb21 hf21 => ?_
  rw [w64 (by omega)]
  refine stC_one hb21 (by simp) rfl fun w23 hb23 hf23 => ?_
  have hTw23 := ((hTw.keep hf20 (fun _ _ y => y.elim)).keep hf21 (fun i _ y => y)).keep hf23 (fun i _ y => y)
  have hF23 : Fm none' W w23 := ((hF.trans hf20).trans' hf21 (by rintro i hi rfl; have := hF.size; omega)).trans' hf23 (by rintro i hi rfl; have := hF.size; omega)
  have hx23 := lt_of_blk hb23
  refine rd_of (cells_all hb23 rfl) ?_
  refine (two_t (K k) (C k) (Pv k) (k + 1) hTw23 hx23).mono ?_
  rintro _ w26 ⟨rfl, hTw26, hf26⟩
  have hb26 := hf26.keep hb23 (fun y => y.2 rfl)
  have hF26 : Fm none' W w26 := hF23.trans' hf26 (by rintro i hi ⟨y, _⟩; omega)
  have hx26 := lt_of_blk hb26
  simp only [isB_i, isK_i, isP_i, isTup_i, isInt_i, isSl_i, isPtr_i, isCs_i, isStr_i, isFn_i, isIf_i, rd_i, br_t, br_f, orO_s, orO_n, gd_t, bv_add, bv_sub, bv_mul, bv_eql, bv_neq, bv_lss, bv_leq, bv_gtr, bv_geq, bv_quo, bv_rem, bv_shl, bv_shr, bv_seq, bv_sne, bv_ptr, bv_if, bv_map, bv_nf, bv_bool, bv_sl, bv_fn, uv_not, uv_neg, eqV, nilV, nc_ptr, nc_fn, nc_if, Option.map_some, toN, Nat.mul_one, implies_true, true_and, and_true, and_self]
  have hn1 : ∀ q ∈ s.used.map (·.1), q ≠ (k : Int) + 1 := fun q hq => by have := hu q hq; omega
  have hn2 : ∀ q ∈ s'.used.map (·.1), q ≠ (k : Int) + 1 := fun q hq => by have := hu' q hq; omega
  have hu3 : ∀ q ∈ (doesS s (K k) (C k) (Pv k) (k + 1)).2.used.map (·.1), q ≤ (k : Int) + 1 := fun q hq => by rcases does_used hq with e | e; omega; have := hu q e; omega
  refine ⟨fun _ w' => ∃ s'' : St, Two W w' w12.heap.size T U (doesS s (K k) (C k) (Pv k) (k + 1)).2 s'' ∧ getM b (doesS s (K k) (C k) (Pv k) (k + 1)).2.cs = getM b s''.cs ∧ (∀ q ∈ s''.used.map (·.1), q ≤ (k : Int) + 1) ∧ Fm none' W w' ∧ w'.heap[w12.heap.size]? = w23.heap[w12.heap.size]?, ?_, ?_⟩
  · refine rd_of (v := .int .i64 (C k)) (cellOf hb26 rfl) ?_
    simp only [isB_i, isK_i, isP_i, isTup_i, isInt_i, isSl_i, isPtr_i, isCs_i, isStr_i, isFn_i, isIf_i, rd_i, br_t, br_f, orO_s, orO_n, gd_t, bv_add, bv_sub, bv_mul, bv_eql, bv_neq, bv_lss, bv_leq, bv_gtr, bv_geq, bv_quo, bv_rem, bv_shl, bv_shr, bv_seq, bv_sne, bv_ptr, bv_if, bv_map, bv_nf, bv_bool, bv_sl, bv_fn, uv_not, uv_neg, eqV, nilV, nc_ptr, nc_fn, nc_if, Option.map_some, toN, Nat.mul_one, implies_true, true_and, and_true, and_self]
    refine br_dec (fun hcb => ?_) (fun hcb => ?_)
    · refine rd_of (cells_all hb26 rfl) ?_
      refine (two_u (K k) (C k) (Pv k) (k + 1) hTw26 hx26).mono ?_
      rintro _ w33 ⟨rfl, hTw33, hf33⟩
      have hsm := does_same (who := C k) (kd := K k) (p := Pv k) hTw.keys.1 hTw.keys.2 (by rw [hcb]; exact hg) hn1 hn2
      simp only [isB_i, isK_i, isP_i, isTup_i, isInt_i, isSl_i, isPtr_i, isCs_i, isStr_i, isFn_i, isIf_i, rd_i, br_t, br_f, orO_s, orO_n, gd_t, bv_add, bv_sub, bv_mul, bv_eql, bv_neq, bv_lss, bv_leq, bv_gtr, bv_geq, bv_quo, bv_rem, bv_shl, bv_shr, bv_seq, bv_sne, bv_ptr, bv_if, bv_map, bv_nf, bv_bool, bv_sl, bv_fn, uv_not, uv_neg, eqV, nilV, nc_ptr, nc_fn, nc_if, Option.map_some, toN, Nat.mul_one, implies_true, true_and, and_true, and_self]
      rw [hsm.1]
      refine br_ndec (fun y => absurd rfl y) (fun _ => ?_)
      refine ⟨_, hTw33, by rw [← hcb]; exact hsm.2, fun q hq => by rcases does_used hq with e | e; omega; have := hu' q e; omega, hF26.trans' hf33 (by rintro i hi ⟨y, _⟩; omega), (hf33.keep hb26 fun y => y.2 rfl).trans hb23.symm⟩
    · exact ⟨s', hTw26, by rw [does_other hTw.keys.1 (fun e => hcb e.symm)]; exact hg, fun q hq => by have := hu' q hq; omega, hF26, hb26.trans hb23.symm⟩
  rintro u36 w37 ⟨s'', hTw37, hg37, hu37, hF37, hb37⟩
  rw [hb23] at hb37
  refine rd_of (v := .int .u16 (Pv k)) (cellOf hb37 rfl) ?_
  simp only [isB_i, isK_i, isP_i, isTup_i, isInt_i, isSl_i, isPtr_i, isCs_i, isStr_i, isFn_i, isIf_i, rd_i, br_t, br_f, orO_s, orO_n, gd_t, bv_add, bv_sub, bv_mul, bv_eql, bv_neq, bv_lss, bv_leq, bv_gtr, bv_geq, bv_quo, bv_rem, bv_shl, bv_shr, bv_seq, bv_sne, bv_ptr, bv_if, bv_map, bv_nf, bv_bool, bv_sl, bv_fn, uv_not, uv_neg, eqV, nilV, nc_ptr, nc_fn, nc_if, Option.map_some, toN, Nat.mul_one, implies_true, true_and, and_true, and_self]
  refine (two_ask b (Pv k) hTw37).1.mono ?_
  rintro _ w42 ⟨rfl, rfl⟩
  simp only [isB_i, isK_i, isP_i, isTup_i, isInt_i, isSl_i, isPtr_i, isCs_i, isStr_i, isFn_i, isIf_i, rd_i, br_t, br_f, orO_s, orO_n, gd_t, bv_add, bv_sub, bv_mul, bv_eql, bv_neq, bv_lss, bv_leq, bv_gtr, bv_geq, bv_quo, bv_rem, bv_shl, bv_shr, bv_seq, bv_sne, bv_ptr, bv_if, bv_map, bv_nf, bv_bool, bv_sl, bv_fn, uv_not, uv_neg, eqV, nilV, nc_ptr, nc_fn, nc_if, Option.map_some, toN, Nat.mul_one, implies_true, true_and, and_true, and_self, List.getElem?_cons_zero, List.getElem?_cons_succ]
  refine rd_of (v := .int .u16 (Pv k)) (cellOf hb37 rfl) ?_
  simp only [isB_i, isK_i, isP_i, isTup_i, isInt_i, isSl_i, isPtr_i, isCs_i, isStr_i, isFn_i, isIf_i, rd_i, br_t, br_f, orO_s, orO_n, gd_t, bv_add, bv_sub, bv_mul, bv_eql, bv_neq, bv_lss, bv_leq, bv_gtr, bv_geq, bv_quo, bv_rem, bv_shl, bv_shr, bv_seq, bv_sne, bv_ptr, bv_if, bv_map, bv_nf, bv_bool, bv_sl, bv_fn, uv_not, uv_neg, eqV, nilV, nc_ptr, nc_fn, nc_if, Option.map_some, toN, Nat.mul_one, implies_true, true_and, and_true, and_self]
  refine (two_ask b (Pv k) hTw37).2.mono ?_
  rintro _ w42 ⟨rfl, rfl⟩
  simp only [isB_i, isK_i, isP_i, isTup_i, isInt_i, isSl_i, isPtr_i, isCs_i, isStr_i, isFn_i, isIf_i, rd_i, br_t, br_f, orO_s, orO_n, gd_t, bv_add, bv_sub, bv_mul, bv_eql, bv_neq, bv_lss, bv_leq, bv_gtr, bv_geq, bv_quo, bv_rem, bv_shl, bv_shr, bv_seq, bv_sne, bv_ptr, bv_if, bv_map, bv_nf, bv_bool, bv_sl, bv_fn, uv_not, uv_neg, eqV, nilV, nc_ptr, nc_fn, nc_if, Option.map_some, toN, Nat.mul_one, implies_true, true_and, and_true, and_self, List.getElem?_cons_zero, List.getElem?_cons_succ]
  rw [askS_get _ s'' b (Pv k) hg37]
  refine br_ndec (fun y => absurd rfl y) (fun _ => ?_)
  refine br_ndec (fun y => absurd rfl y) (fun _ => ?_)
  refine ⟨⟨k + 1, _, _, s'', by omega, rfl, hTw37, hg37, fun q hq => by have := hu3 q hq; omega, fun q hq => by have := hu37 q hq; omega, hF37⟩, ?_⟩
  show 150 - ((k : Int) + 1).toNat < 150 - (k : Int).toNat; omega
end Go.Proofs.Ytfdbojnikoonbaa
