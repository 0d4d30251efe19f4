/- RingTablePlays comes to true and turns nothing that was there.  Conditions: the argument's cells hold numbers. -/
import Derived.Test.YtlhgibiffekpfaaRefT
import Derived.Test.YtlhgibiffekpfaaSeqT
import Derived.Test.YtlhgibiffekpfaaShown
import Derived.Test.YtlhgibiffekpfaaC7
namespace Go.Proofs.Ytlhgibiffekpfaa
set_option linter.unusedSimpArgs false
set_option linter.unusedVariables false
open Go Go.RowKit VC
/-- Rising ids, none above the last one; not too many. -/
def GoodT (Mm last : Int) (l : List (Int × Int)) : Prop := (l.map (·.1)).Pairwise (fun x y => x < y) ∧ (∀ p ∈ l, p.1 ≤ last) ∧ (l.length : Int) ≤ Mm
theorem getM_last {Mm last : Int} {l : List (Int × Int)} (h : GoodT Mm last l) : getM (last + 1) l = none := by
  rw [getM_mem]
  intro hm
  obtain ⟨p, hp, e⟩ := List.mem_map.1 hm
  have := h.2.1 p hp; omega
theorem GoodT.add {Mm last x : Int} {l : List (Int × Int)} (h : GoodT Mm last l) (hl : (l.length : Int) < Mm) : GoodT Mm (last + 1) (l ++ [(last + 1, x)]) := by
  refine ⟨?_, fun p hp => ?_, by simp; omega⟩
  · rw [List.map_append]
    refine List.pairwise_append.2 ⟨h.1, by simp, fun a ha b hb => ?_⟩
    obtain ⟨p, hp, rfl⟩ := List.mem_map.1 ha
    simp at hb; subst hb
    have := h.2.1 p hp; omega
  · rcases List.mem_append.1 hp with hp | hp
    · have := h.2.1 p hp; omega
    · simp at hp; subst hp; exact Int.le_refl _
theorem delM_sub (k : Int) : ∀ l : List (Int × Int), (delM k l).Sublist l := by
  intro l
  induction l with
  | nil => exact List.Sublist.refl _
  | cons p l ih =>
    simp only [delM]
    split
    · exact List.sublist_cons_self _ _
    · exact ih.cons_cons _
theorem GoodT.del {Mm last k : Int} {l : List (Int × Int)} (h : GoodT Mm last l) : GoodT Mm last (delM k l) := by
  have hs := delM_sub k l
  refine ⟨h.1.sublist (hs.map _), fun p hp => h.2.1 p (hs.subset hp), ?_⟩
  have := hs.length_le
  have := h.2.2
  omega
theorem GoodT.set {Mm last k x : Int} {v n : Nat} {y : Int} {l : List (Int × Int)} (h : GoodT Mm last l) (hn : l[n]? = some (k, y)) : GoodT Mm last (l.set n (k, x)) := by
  have hk : (l.set n (k, x)).map (·.1) = l.map (·.1) := by
    refine List.ext_getElem? fun i => ?_
    rw [List.map_set, List.getElem?_set]
    split
    · rename_i e; subst e
      have := (List.getElem?_eq_some_iff.1 hn).1
      rw [if_pos (by simpa using this), List.getElem?_map, hn]; rfl
    · rfl
  refine ⟨by rw [hk]; exact h.1, fun p hp => ?_, by rw [List.length_set]; exact h.2.2⟩
  have : p.1 ∈ l.map (·.1) := by rw [← hk]; exact List.mem_map_of_mem hp
  obtain ⟨p', hp', e⟩ := List.mem_map.1 this
  have := h.2.1 p' hp'; omega
structure S0 (W : World) (n8 B M Q : Nat) (mk : Value) (w : World) : Prop where
  c1 : w.heap[n8]? = some (.cells #[.pointer (some ⟨Q, 0, none⟩)] 70 (0, 0))
  lo : W.heap.size ≤ n8 ∧ W.heap.size ≤ B ∧ W.heap.size ≤ M ∧ W.heap.size ≤ Q
  marks : Marks w W.heap.size mk
  fm : Fm none' W w
variable {W w : World} {n8 B M Q : Nat} {mk : Value} {Mm m last : Int} {l : List (Int × Int)} {q : Option Nat}
theorem S0.keep {w' : World} {S : Nat → Prop} (h : S0 W n8 B M Q mk w) (f : Fm S w w') (hS : ∀ i, S i → W.heap.size ≤ i ∧ i ≠ n8 ∧ w.heap[i]? ≠ some (.deferred (some []))) : S0 W n8 B M Q mk w' where
  c1 := f.keep h.c1 fun e => (hS _ e).2.1 rfl
  lo := h.lo
  marks := h.marks.keep f fun i _ hd e => (hS _ e).2.2 hd
  fm := h.fm.trans' f fun i hi e => by have := (hS i e).1; omega
structure S1 (W : World) (n8 B M Q : Nat) (Mm m last : Int) (l : List (Int × Int)) (q : Option Nat) (mk : Value) (w : World) : Prop where
  s0 : S0 W n8 B M Q mk w
  tab : TabAt (Value.int .i64) 85 w B M Mm last l
  ref : RefT w Q m last l q
  hq : ∀ i, q = some i → W.heap.size ≤ i
  gd : GoodT Mm last l
theorem S1.objs (h : S1 W n8 B M Q Mm m last l q mk w) : (∃ c, w.heap[B]? = some (.cells c 85 (0, 0))) ∧ (∃ e c, w.heap[M]? = some (.map e c)) ∧ (∃ c, w.heap[Q]? = some (.cells c 73 (0, 0))) ∧ (∀ i, q = some i → ∃ c, w.heap[i]? = some (.cells c 78 (0, 0))) ∧ ∃ c, w.heap[n8]? = some (.cells c 70 (0, 0)) := by
  obtain ⟨es, clock, h2, -⟩ := h.tab.2
  exact ⟨⟨_, h.tab.1⟩, ⟨_, _, h2⟩, h.ref.blocks.1, h.ref.blocks.2, ⟨_, h.s0.c1⟩⟩
theorem ne_obj {w : World} {i j : Nat} {o o' : Obj} (h : w.heap[i]? = some o) (h' : w.heap[j]? = some o') (hne : o ≠ o') : i ≠ j := by
  rintro rfl; rw [h] at h'; exact hne (Option.some.inj h')
/-- A box is written: one of another type. -/
theorem S1.box {w' : World} {S : Nat → Prop} (h : S1 W n8 B M Q Mm m last l q mk w) (f : Fm S w w') (hS : ∀ i, S i → W.heap.size ≤ i ∧ ∃ c t, w.heap[i]? = some (.cells c t (0, 0)) ∧ t ≠ 85 ∧ t ≠ 73 ∧ t ≠ 78 ∧ t ≠ 70) : S1 W n8 B M Q Mm m last l q mk w' := by
  obtain ⟨⟨cB, hB⟩, ⟨e, ck, hM⟩, ⟨cQ, hQ⟩, hqq, ⟨c8, h8⟩⟩ := h.objs
  have key : ∀ i c t, w.heap[i]? = some (.cells c t (0, 0)) → (t = 85 ∨ t = 73 ∨ t = 78 ∨ t = 70) → ¬ S i := fun i c t hi ht hs => by
    obtain ⟨-, c', t', h1, h2, h3, h4, h5⟩ := hS i hs
    rw [hi] at h1; cases h1
    rcases ht with rfl | rfl | rfl | rfl
    · exact h2 rfl
    · exact h3 rfl
    · exact h4 rfl
    · exact h5 rfl
  refine ⟨h.s0.keep f fun i hi => ?_, h.tab.keep f (key _ _ _ hB (.inl rfl)) fun hs => ?_, h.ref.keep f (key _ _ _ hQ (.inr (.inl rfl))) fun i hi => ?_, h.hq, h.gd⟩
  · obtain ⟨h0, c', t', h1, h2, h3, h4, h5⟩ := hS i hi
    exact ⟨h0, ne_obj h1 h8 (fun e => by cases e; exact h5 rfl), by rw [h1]; intro e; cases e⟩
  · obtain ⟨-, c', t', h1, -⟩ := hS _ hs
    rw [hM] at h1; cases h1
  · obtain ⟨c, hc⟩ := hqq i hi
    exact key _ _ _ hc (.inr (.inr (.inl rfl)))
theorem S1.box1 {w' : World} {n : Nat} {c : Array Value} {t : TypeId} (h : S1 W n8 B M Q Mm m last l q mk w) (f : Fm (fun i => i = n) w w') (hn : w.heap[n]? = some (.cells c t (0, 0))) (hW : W.heap.size ≤ n) (ht : t ≠ 85 ∧ t ≠ 73 ∧ t ≠ 78 ∧ t ≠ 70) : S1 W n8 B M Q Mm m last l q mk w' :=
  h.box f fun i e => by subst e; exact ⟨hW, c, t, hn, ht⟩
theorem S1.quiet {w' : World} (h : S1 W n8 B M Q Mm m last l q mk w) (f : Fm none' w w') : S1 W n8 B M Q Mm m last l q mk w' := h.box f fun _ e => e.elim
theorem S1.push {D : Nat} (h : S1 W n8 B M Q Mm m last l q mk w) (hD : W.heap.size ≤ D) (hd : w.heap[D]? = some (.deferred (some []))) (hne : ∀ ds, mk = encD ds → D ∉ ds) : S1 W n8 B M Q Mm m last l q (pushD D mk) w :=
  { h with s0 := { h.s0 with marks := h.s0.marks.push hD hd hne } }
/-- What may be read. -/
theorem S1.reads (h : S1 W n8 B M Q Mm m last l q mk w) : w.cell? ⟨n8, 0, none⟩ = some (.pointer (some ⟨Q, 0, none⟩)) ∧ ∃ p c, w.cell? ⟨Q, 2, none⟩ = some (.slice p l.length c) ∧
    ∀ (j : Nat) (x : Int × Int), l[j]? = some x → ∃ i, p = some ⟨i, 0, none⟩ ∧ q = some i ∧ w.cell? ⟨i, j * 2, none⟩ = some (.int .i64 x.1) ∧ w.cell? ⟨i, j * 2 + 1, none⟩ = some (.int .i64 x.2) := by
  obtain ⟨p, c, -, -, r2, -, -, hrd⟩ := h.ref.reads
  exact ⟨cellOf h.s0.c1 rfl, p, c, r2, hrd⟩
theorem S1.gdl (h : S1 W n8 B M Q Mm m last l q mk w) : (l.length : Int) ≤ Mm := h.gd.2.2
/-- The program's table is another one. -/
theorem S1.notTab (h : S1 W n8 B M Q Mm m last l q mk w) : Q ≠ B ∧ Q ≠ M ∧ n8 ≠ B ∧ n8 ≠ M ∧ n8 ≠ Q ∧ ∀ i, q = some i → i ≠ B ∧ i ≠ M ∧ i ≠ Q ∧ i ≠ n8 := by
  obtain ⟨⟨cB, hB⟩, ⟨e, ck, hM⟩, ⟨cQ, hQ⟩, hqq, ⟨c8, h8⟩⟩ := h.objs
  refine ⟨ne_obj hQ hB (fun e => by cases e), ne_obj hQ hM (fun e => by cases e), ne_obj h8 hB (fun e => by cases e), ne_obj h8 hM (fun e => by cases e), ne_obj h8 hQ (fun e => by cases e), fun i hi => ?_⟩
  obtain ⟨c, hc⟩ := hqq i hi
  exact ⟨ne_obj hc hB (fun e => by cases e), ne_obj hc hM (fun e => by cases e), ne_obj hc hQ (fun e => by cases e), ne_obj hc h8 (fun e => by cases e)⟩
/-- The program's table turns, and the reference's. -/
theorem S1.both {w1 w2 : World} {last' : Int} {l' : List (Int × Int)} {q' : Option Nat} (h : S1 W n8 B M Q Mm m last l q mk w) (f1 : Fm (fun i => i = B ∨ i = M) w w1) (f2 : Fm (fun i => i = Q) w1 w2) (ht : TabAt (Value.int .i64) 85 w1 B M Mm last' l') (hr : RefT w2 Q m last' l' q') (hq : q' = q ∨ ∀ i, q' = some i → w1.heap.size ≤ i) (hg : GoodT Mm last' l') :
    S1 W n8 B M Q Mm m last' l' q' mk w2 := by
  obtain ⟨e1, e2, e3, e4, e5, e6⟩ := h.notTab
  obtain ⟨⟨cB, hB⟩, ⟨e, ck, hM⟩, ⟨cQ, hQ⟩, hqq, ⟨c8, h8⟩⟩ := h.objs
  have hlo := h.s0.lo
  have s1 := f1.size
  have h01 : S0 W n8 B M Q mk w1 := h.s0.keep f1 fun i hi => by
    rcases hi with rfl | rfl
    · exact ⟨hlo.2.1, fun e => e3 e.symm, by rw [hB]; intro e; cases e⟩
    · exact ⟨hlo.2.2.1, fun e => e4 e.symm, by rw [hM]; intro e; cases e⟩
  have hQ1 := f1.keep hQ (by rintro (e | e); exact e1 e; exact e2 e)
  refine ⟨h01.keep f2 fun i hi => ?_, ht.keep f2 (fun e => e1 e.symm) (fun e => e2 e.symm), hr, fun i hi => ?_, hg⟩
  · subst hi; exact ⟨hlo.2.2.2, fun e => e5 e.symm, by rw [hQ1]; intro e; cases e⟩
  · rcases hq with rfl | hq
    · exact h.hq i hi
    · have := hq i hi; have := h01.fm.size; omega
theorem fnd_get (k : Int) (l : List (Int × Int)) : (fnd k l 0 = none ∧ getM k l = none) ∨ ∃ n v, fnd k l 0 = some (n, v) ∧ getM k l = some v ∧ l[n]? = some (k, v) ∧ n < l.length ∧ (∀ x, setM k x l = l.set n (k, x)) := by
  cases hf : fnd k l 0 with
  | none => exact .inl ⟨rfl, (fnd_none hf).1⟩
  | some y =>
    obtain ⟨i, v⟩ := y
    obtain ⟨n, rfl, hn, e2, e3, -⟩ := fnd_some hf
    exact .inr ⟨n, v, by simp, e2, hn, (List.getElem?_eq_some_iff.1 hn).1, e3⟩
set_option maxHeartbeats 4000000 in
set_option maxRecDepth 20000 in
theorem tplays_c (a : Int) (bp : Option Addr) (bn bc : Nat) (ss : Nat → Int × Int × Int) (W : World) (hl : ∀ i, i < bn → ∃ ad, bp = some ad ∧ cellsAt W (ad.add (i * 3)) 3 = some [.int .i64 (ss i).1, .int .i64 (ss i).2.1, .int .i64 (ss i).2.2]) :
    callV Try.prog 9 [.int .i64 a, .slice bp bn bc] W fun v w' => v = .bool true ∧ Fm none' W w' := by
  refine vc9 a bp bn bc W _ ?_
  refine (shown_c W).mono ?_
  rintro _ w1 ⟨rfl, hf1⟩
  simp only [isB_i, isK_i, isP_i, isTup_i, isInt_i, isSl_i, isPtr_i, isCs_i, isStr_i, isFn_i, isIf_i, rd_i, br_t, br_f, orO_s, orO_n, gd_t, bv_add, bv_sub, bv_mul, bv_eql, bv_neq, bv_lss, bv_leq, bv_gtr, bv_geq, bv_quo, bv_rem, bv_shl, bv_shr, bv_seq, bv_sne, bv_ptr, bv_if, bv_map, bv_nf, bv_bool, bv_sl, bv_fn, uv_not, uv_neg, eqV, nilV, nc_ptr, nc_fn, nc_if, Option.map_some, toN, Nat.mul_one, implies_true, true_and, and_true, and_self]
  refine (new16_c (min a 60) w1).mono ?_
  rintro _ w4 ⟨B, M, rfl, hB, hM, ht4, hf4⟩
  simp only [isB_i, isK_i, isP_i, isTup_i, isInt_i, isSl_i, isPtr_i, isCs_i, isStr_i, isFn_i, isIf_i, rd_i, br_t, br_f, orO_s, orO_n, gd_t, bv_add, bv_sub, bv_mul, bv_eql, bv_neq, bv_lss, bv_leq, bv_gtr, bv_geq, bv_quo, bv_rem, bv_shl, bv_shr, bv_seq, bv_sne, bv_ptr, bv_if, bv_map, bv_nf, bv_bool, bv_sl, bv_fn, uv_not, uv_neg, eqV, nilV, nc_ptr, nc_fn, nc_if, Option.map_some, toN, Nat.mul_one, implies_true, true_and, and_true, and_self, Option.isNone_some]
  refine allocC_of fun w7 hb7 hs7 hf7 => ?_
  refine allocC_of fun w9 hb9 hs9 hf9 => ?_
  refine stC_one hb9 (by simp) rfl fun w10 hb10 hf10 => ?_
  have z1 := hf1.size
  have z4 := ht4.lt
  obtain ⟨Mm, hMm⟩ : ∃ M, M = max (min a 60) 1 := ⟨_, rfl⟩
  obtain ⟨m, hm⟩ : ∃ m, m = min a 60 := ⟨_, rfl⟩
  rw [← hMm] at ht4
  rw [← hm] at hb7 hMm
  have hst : S1 W w7.heap.size B M w4.heap.size Mm m 0 [] none (.tuple #[]) w10 :=
    { s0 := { c1 := hb10, lo := by omega, marks := Marks.nil _ _, fm := (((hf1.trans hf4).trans hf7).trans hf9).trans' hf10 fun i hi e => by omega }
      tab := (ht4.keep (hf7.trans hf9) id id).keep hf10 (by omega) (by omega)
      ref := ⟨none, 0, hf10.keep (hf9.keep hb7 id) (by omega), World.ownsRow_nil _ _ _ _, rfl⟩
      hq := fun _ e => by cases e
      gd := ⟨by simp, by simp, by simp; omega⟩ }
  generalize hn8 : w7.heap.size = n8 at hst ⊢
  generalize hQ : w4.heap.size = Q at hst ⊢
  clear hb7 hb9 hb10 ht4
  refine ⟨fun u w' => ∃ (k : Nat) (last : Int) (l : List (Int × Int)) (q : Option Nat), k ≤ bn ∧ u 8 = .int .i64 k ∧ 0 ≤ last ∧ last ≤ k ∧ k ≤ 100 ∧ S1 W n8 B M Q Mm m last l q (u 1000000) w', fun u _ => bn - (intOf (u 8)).toNat, ⟨0, 0, [], none, by omega, rfl, by omega, by omega, by omega, hst⟩, ?_⟩
  clear hst
  rintro u w14 ⟨k, last, l, q, hk, h8, hla0, hla1, hk100, hst⟩
  change u 8 = .int .i64 k at h8
  change S1 W n8 B M Q Mm m last l q (u 1000000) w14 at hst
  generalize hmk : u 1000000 = mk at hst ⊢
  simp only [h8, isB_i, isK_i, isP_i, isTup_i, isInt_i, isSl_i, isPtr_i, isCs_i, isStr_i, isFn_i, isIf_i, rd_i, br_t, br_f, orO_s, orO_n, gd_t, bv_add, bv_sub, bv_mul, bv_eql, bv_neq, bv_lss, bv_leq, bv_gtr, bv_geq, bv_quo, bv_rem, bv_shl, bv_shr, bv_seq, bv_sne, bv_ptr, bv_if, bv_map, bv_nf, bv_bool, bv_sl, bv_fn, uv_not, uv_neg, eqV, nilV, nc_ptr, nc_fn, nc_if, Option.map_some, toN, Nat.mul_one, implies_true, true_and, and_true, and_self]
  have fin : leaveC mk w14 fun w432 => Value.bool true = Value.bool true ∧ Fm none' W w432 :=
    hst.s0.marks.leave fun w' hf => ⟨rfl, hst.s0.fm.trans' hf fun i hi e => by omega⟩
  refine br_dec (fun hkn => ?_) (fun hkn => by simpa using fin)
  refine br_dec (fun hk1 => ?_) (fun hk1 => by simpa using fin)
  clear fin
  refine ⟨fun u' w' => ∃ (last : Int) (l : List (Int × Int)) (q : Option Nat), 0 ≤ last ∧ last ≤ k + 1 ∧ S1 W n8 B M Q Mm m last l q (u' 1000000) w', ?_, ?_⟩
  rotate_left
  · rintro u' w' ⟨last', l', q', h1, h2, hst'⟩
    change S1 W n8 B M Q Mm m last' l' q' (u' 1000000) w' at hst'
    rw [w64 (by omega)]
    refine ⟨⟨k + 1, last', l', q', by omega, rfl, h1, by omega, by omega, hst'⟩, ?_⟩
    show bn - ((k : Int) + 1).toNat < bn - (k : Int).toNat; omega
  obtain ⟨ad, rfl, hc⟩ := hl k (by omega)
  generalize ss k = sk at hc
  obtain ⟨kd, id', x⟩ := sk
  have hc14 := hst.s0.fm.cells id hc
  simp only [hc14, isB_i, isK_i, isP_i, isTup_i, isInt_i, isSl_i, isPtr_i, isCs_i, isStr_i, isFn_i, isIf_i, rd_i, br_t, br_f, orO_s, orO_n, gd_t, bv_add, bv_sub, bv_mul, bv_eql, bv_neq, bv_lss, bv_leq, bv_gtr, bv_geq, bv_quo, bv_rem, bv_shl, bv_shr, bv_seq, bv_sne, bv_ptr, bv_if, bv_map, bv_nf, bv_bool, bv_sl, bv_fn, uv_not, uv_neg, eqV, nilV, nc_ptr, nc_fn, nc_if, Option.map_some, toN, Nat.mul_one, implies_true, true_and, and_true, and_self]
  refine ⟨by omega, ?_⟩
  have hlo := hst.s0.lo
  have hfmz := hst.s0.fm.size
  refine allocC_of fun w23 hb23 hs23 hf23 => ?_
  simp only [List.length_cons, List.length_nil, Nat.reduceAdd, Nat.reduceBEq, isB_i, isK_i, isP_i, isTup_i, isInt_i, isSl_i, isPtr_i, isCs_i, isStr_i, isFn_i, isIf_i, rd_i, br_t, br_f, orO_s, orO_n, gd_t, bv_add, bv_sub, bv_mul, bv_eql, bv_neq, bv_lss, bv_leq, bv_gtr, bv_geq, bv_quo, bv_rem, bv_shl, bv_shr, bv_seq, bv_sne, bv_ptr, bv_if, bv_map, bv_nf, bv_bool, bv_sl, bv_fn, uv_not, uv_neg, eqV, nilV, nc_ptr, nc_fn, nc_if, Option.map_some, toN, Nat.mul_one, implies_true, true_and, and_true, and_self]
  refine stC_all hb23 rfl (by simp [Value.oneCell']) fun w24 hb24 hf24 => ?_
  have hst1 : S1 W n8 B M Q Mm m last l q mk w24 := (hst.quiet hf23).box1 hf24 hb23 hfmz (by decide)
  have hn22 : W.heap.size ≤ w14.heap.size := hfmz
  generalize hn22' : w14.heap.size = n22 at hb24 hn22 ⊢
  clear hb23 hf24 hf23
  obtain ⟨hrn, p, c, hrd, hrb⟩ := hst1.reads
  have k0 : w24.cell? ⟨n22, 0, none⟩ = some (.int .i64 kd) := cellOf hb24 rfl
  have k1 : w24.cell? ⟨n22, 1, none⟩ = some (.int .i64 id') := cellOf hb24 rfl
  simp only [hrn, k1, isB_i, isK_i, isP_i, isTup_i, isInt_i, isSl_i, isPtr_i, isCs_i, isStr_i, isFn_i, isIf_i, rd_i, br_t, br_f, orO_s, orO_n, gd_t, bv_add, bv_sub, bv_mul, bv_eql, bv_neq, bv_lss, bv_leq, bv_gtr, bv_geq, bv_quo, bv_rem, bv_shl, bv_shr, bv_seq, bv_sne, bv_ptr, bv_if, bv_map, bv_nf, bv_bool, bv_sl, bv_fn, uv_not, uv_neg, eqV, nilV, nc_ptr, nc_fn, nc_if, Option.map_some, toN, Nat.mul_one, implies_true, true_and, and_true, and_self]
  refine (find38_c id' hst1.ref (by have := hst1.gdl; omega)).mono ?_
  rintro _ w30 ⟨rfl, rfl⟩
  simp only [isB_i, isK_i, isP_i, isTup_i, isInt_i, isSl_i, isPtr_i, isCs_i, isStr_i, isFn_i, isIf_i, rd_i, br_t, br_f, orO_s, orO_n, gd_t, bv_add, bv_sub, bv_mul, bv_eql, bv_neq, bv_lss, bv_leq, bv_gtr, bv_geq, bv_quo, bv_rem, bv_shl, bv_shr, bv_seq, bv_sne, bv_ptr, bv_if, bv_map, bv_nf, bv_bool, bv_sl, bv_fn, uv_not, uv_neg, eqV, nilV, nc_ptr, nc_fn, nc_if, Option.map_some, toN, Nat.mul_one, implies_true, true_and, and_true, and_self]
  refine allocC_of fun w33 hb33 hs33 hf33 => ?_
  refine stC_one hb33 (by simp) rfl fun w34 hb34 hf34 => ?_
  have hst2 : S1 W n8 B M Q Mm m last l q mk w34 := (hst1.quiet hf33).box1 hf34 hb33 hst1.s0.fm.size (by decide)
  have hb24' := hf34.keep (hf33.keep hb24 id) (by have := lt_of_blk hb24; omega)
  have hn32 : W.heap.size ≤ w30.heap.size := hst1.s0.fm.size
  have hne : n22 ≠ w30.heap.size := by have := lt_of_blk hb24; omega
  generalize hn32' : w30.heap.size = n32 at hb34 hne hn32 ⊢
  clear hb33 hf34 hf33 hst1 hrn hrd hrb k0 k1 hb24 hst
  have hb34 : w34.heap[n32]? = some (.cells #[.bool true] 4 (0, 0)) := hb34
  have hb24' : w34.heap[n22]? = some (.cells #[.int .i64 kd, .int .i64 id', .int .i64 x] 75 (0, 0)) := hb24'
  have fin : ∀ (w' : World) (last' : Int) (l' : List (Int × Int)) (q' : Option Nat), 0 ≤ last' → last' ≤ k + 1 → S1 W n8 B M Q Mm m last' l' q' mk w' → w'.heap[n32]? = some (.cells #[.bool true] 4 (0, 0)) →
      stC w' ⟨n32, 0, none⟩ [.bool true] fun w2 => ∃ (last' : Int) (l' : List (Int × Int)) (q' : Option Nat), 0 ≤ last' ∧ last' ≤ k + 1 ∧ S1 W n8 B M Q Mm m last' l' q' mk w2 ∧ w2.heap[n32]? = some (.cells #[.bool true] 4 (0, 0)) := fun w' last' l' q' h1 h2 h3 h4 => by
    refine stC_one h4 (by simp) rfl fun w2 hw2 hf2 => ⟨last', l', q', h1, h2, h3.box1 hf2 h4 hn32 (by decide), hw2⟩
  obtain ⟨⟨cB', o1⟩, ⟨eM', cM', o2⟩, ⟨cQ', o3⟩, o4, o5⟩ := hst2.objs
  have nB : n32 ≠ B ∧ n22 ≠ B := ⟨ne_obj hb34 o1 (fun e => by cases e), ne_obj hb24' o1 (fun e => by cases e)⟩
  have nM : n32 ≠ M ∧ n22 ≠ M := ⟨ne_obj hb34 o2 (fun e => by cases e), ne_obj hb24' o2 (fun e => by cases e)⟩
  have nQ : n32 ≠ Q ∧ n22 ≠ Q := ⟨ne_obj hb34 o3 (fun e => by cases e), ne_obj hb24' o3 (fun e => by cases e)⟩
  obtain ⟨t1, t2, t3, t4, t5, t6⟩ := hst2.notTab
  have notBM : ∀ i, i ≠ B → i ≠ M → ¬ (i = B ∨ i = M) := fun i h1 h2 h => h.elim h1 h2
  have k0 : w34.cell? ⟨n22, 0, none⟩ = some (.int .i64 kd) := cellOf hb24' rfl
  have k1 : w34.cell? ⟨n22, 1, none⟩ = some (.int .i64 id') := cellOf hb24' rfl
  have k2 : w34.cell? ⟨n22, 2, none⟩ = some (.int .i64 x) := cellOf hb24' rfl
  have hgd := hst2.gd
  have hlM := hst2.gdl
  refine ⟨fun _ w' => ∃ (last' : Int) (l' : List (Int × Int)) (q' : Option Nat), 0 ≤ last' ∧ last' ≤ k + 1 ∧ S1 W n8 B M Q Mm m last' l' q' mk w' ∧ w'.heap[n32]? = some (.cells #[.bool true] 4 (0, 0)), ?_, ?_⟩
  · simp only [k0, isB_i, isK_i, isP_i, isTup_i, isInt_i, isSl_i, isPtr_i, isCs_i, isStr_i, isFn_i, isIf_i, rd_i, br_t, br_f, orO_s, orO_n, gd_t, bv_add, bv_sub, bv_mul, bv_eql, bv_neq, bv_lss, bv_leq, bv_gtr, bv_geq, bv_quo, bv_rem, bv_shl, bv_shr, bv_seq, bv_sne, bv_ptr, bv_if, bv_map, bv_nf, bv_bool, bv_sl, bv_fn, uv_not, uv_neg, eqV, nilV, nc_ptr, nc_fn, nc_if, Option.map_some, toN, Nat.mul_one, implies_true, true_and, and_true, and_self]
    refine br_dec (fun hk1' => ?_) (fun hk1' => ?_)
    · -- Add
      simp only [k2, isB_i, isK_i, isP_i, isTup_i, isInt_i, isSl_i, isPtr_i, isCs_i, isStr_i, isFn_i, isIf_i, rd_i, br_t, br_f, orO_s, orO_n, gd_t, bv_add, bv_sub, bv_mul, bv_eql, bv_neq, bv_lss, bv_leq, bv_gtr, bv_geq, bv_quo, bv_rem, bv_shl, bv_shr, bv_seq, bv_sne, bv_ptr, bv_if, bv_map, bv_nf, bv_bool, bv_sl, bv_fn, uv_not, uv_neg, eqV, nilV, nc_ptr, nc_fn, nc_if, Option.map_some, toN, Nat.mul_one, implies_true, true_and, and_true, and_self]
      refine (add18_c x hst2.tab (by omega)).mono ?_
      rintro _ w41 ⟨rfl, ht41, hf41⟩
      obtain ⟨y1, y2, last', l', hv, hv', e1, e2, e3, e4, hg', hb0, hb1⟩ : ∃ y1 y2 last' l', (if Mm ≤ (l.length : Int) then Value.tuple #[.int .i64 0, .int .i64 5] else .tuple #[.int .i64 (last + 1), .int .i64 0]) = .tuple #[.int .i64 y1, .int .i64 y2] ∧
          (if max m 1 ≤ (l.length : Int) then Value.tuple #[.int .i64 0, .int .i64 5] else .tuple #[.int .i64 (last + 1), .int .i64 0]) = .tuple #[.int .i64 y1, .int .i64 y2] ∧
          (if Mm ≤ (l.length : Int) then last else last + 1) = last' ∧ (if Mm ≤ (l.length : Int) then l else setM (last + 1) x l) = l' ∧ (if max m 1 ≤ (l.length : Int) then last else last + 1) = last' ∧ (if max m 1 ≤ (l.length : Int) then l else l ++ [(last + 1, x)]) = l' ∧ GoodT Mm last' l' ∧ 0 ≤ last' ∧ last' ≤ k + 1 := by
        rw [← hMm]
        by_cases hfull : Mm ≤ (l.length : Int)
        · exact ⟨_, _, _, _, by rw [if_pos hfull], by rw [if_pos hfull], by rw [if_pos hfull], by rw [if_pos hfull], by rw [if_pos hfull], by rw [if_pos hfull], hgd, by omega, by omega⟩
        · exact ⟨_, _, _, _, by rw [if_neg hfull], by rw [if_neg hfull], by rw [if_neg hfull], by rw [if_neg hfull, setM_none (getM_last hgd)], by rw [if_neg hfull], by rw [if_neg hfull], hgd.add (by omega), by omega, by omega⟩
      rw [hv]
      rw [e1, e2] at ht41
      have c8 : w41.cell? ⟨n8, 0, none⟩ = some (.pointer (some ⟨Q, 0, none⟩)) := hf41.cell hst2.reads.1 (notBM _ t3 t4)
      have k2' : w41.cell? ⟨n22, 2, none⟩ = some (.int .i64 x) := hf41.cell k2 (notBM _ nB.2 nM.2)
      simp only [isB_i, isK_i, isP_i, isTup_i, isInt_i, isSl_i, isPtr_i, isCs_i, isStr_i, isFn_i, isIf_i, rd_i, br_t, br_f, orO_s, orO_n, gd_t, bv_add, bv_sub, bv_mul, bv_eql, bv_neq, bv_lss, bv_leq, bv_gtr, bv_geq, bv_quo, bv_rem, bv_shl, bv_shr, bv_seq, bv_sne, bv_ptr, bv_if, bv_map, bv_nf, bv_bool, bv_sl, bv_fn, uv_not, uv_neg, eqV, nilV, nc_ptr, nc_fn, nc_if, Option.map_some, toN, Nat.mul_one, implies_true, true_and, and_true, and_self, List.getElem?_cons_zero, List.getElem?_cons_succ, c8, k2']
      refine (add39_c x (hst2.ref.keep hf41 (notBM _ t1 t2) fun i hi => notBM _ (t6 i hi).1 (t6 i hi).2.1) (by omega) (by omega)).mono ?_
      rintro _ w53 ⟨rfl, ⟨q', hr53, hq'⟩, hf53⟩
      rw [hv']
      rw [e3, e4] at hr53
      simp only [isB_i, isK_i, isP_i, isTup_i, isInt_i, isSl_i, isPtr_i, isCs_i, isStr_i, isFn_i, isIf_i, rd_i, br_t, br_f, orO_s, orO_n, gd_t, bv_add, bv_sub, bv_mul, bv_eql, bv_neq, bv_lss, bv_leq, bv_gtr, bv_geq, bv_quo, bv_rem, bv_shl, bv_shr, bv_seq, bv_sne, bv_ptr, bv_if, bv_map, bv_nf, bv_bool, bv_sl, bv_fn, uv_not, uv_neg, eqV, nilV, nc_ptr, nc_fn, nc_if, Option.map_some, toN, Nat.mul_one, implies_true, true_and, and_true, and_self, List.getElem?_cons_zero, List.getElem?_cons_succ]
      refine br_dec (fun _ => ?_) (fun h => (h trivial).elim)
      simp only [decide_true]
      exact fin w53 last' l' q' hb0 hb1 (hst2.both hf41 hf53 ht41 hr53 hq' hg') (hf53.keep (hf41.keep hb34 (notBM _ nB.1 nM.1)) nQ.1)
    refine br_dec (fun hk2' => ?_) (fun hk2' => ?_)
    · -- Get
      refine ⟨fun u w' => u 16 = .int .i64 ((getM id' l).getD 0) ∧ u 17 = .bool (getM id' l).isSome ∧ w' = w34, ?_, ?_⟩
      · simp only [k1, isB_i, isK_i, isP_i, isTup_i, isInt_i, isSl_i, isPtr_i, isCs_i, isStr_i, isFn_i, isIf_i, rd_i, br_t, br_f, orO_s, orO_n, gd_t, bv_add, bv_sub, bv_mul, bv_eql, bv_neq, bv_lss, bv_leq, bv_gtr, bv_geq, bv_quo, bv_rem, bv_shl, bv_shr, bv_seq, bv_sne, bv_ptr, bv_if, bv_map, bv_nf, bv_bool, bv_sl, bv_fn, uv_not, uv_neg, eqV, nilV, nc_ptr, nc_fn, nc_if, Option.map_some, toN, Nat.mul_one, implies_true, true_and, and_true, and_self]
        refine (get19_c id' hst2.tab).mono ?_
        rintro _ w66 ⟨rfl, rfl⟩
        simp only [isB_i, isK_i, isP_i, isTup_i, isInt_i, isSl_i, isPtr_i, isCs_i, isStr_i, isFn_i, isIf_i, rd_i, br_t, br_f, orO_s, orO_n, gd_t, bv_add, bv_sub, bv_mul, bv_eql, bv_neq, bv_lss, bv_leq, bv_gtr, bv_geq, bv_quo, bv_rem, bv_shl, bv_shr, bv_seq, bv_sne, bv_ptr, bv_if, bv_map, bv_nf, bv_bool, bv_sl, bv_fn, uv_not, uv_neg, eqV, nilV, nc_ptr, nc_fn, nc_if, Option.map_some, toN, Nat.mul_one, implies_true, true_and, and_true, and_self, List.getElem?_cons_zero, List.getElem?_cons_succ]
        first | exact ⟨rfl, rfl, rfl⟩ | exact ⟨rfl, rfl⟩
      rintro u2 w75 ⟨h16, h17, rfl⟩
      change u2 16 = _ at h16
      change u2 17 = _ at h17
      obtain ⟨hrn, p, c, hrd, hrb⟩ := hst2.reads
      rcases fnd_get id' l with ⟨f1, f2⟩ | ⟨n, v, f1, f2, f3, f4, f5⟩
      · rw [f2] at h16 h17
        simp only [h16, h17, f1, isB_i, isK_i, isP_i, isTup_i, isInt_i, isSl_i, isPtr_i, isCs_i, isStr_i, isFn_i, isIf_i, rd_i, br_t, br_f, orO_s, orO_n, gd_t, bv_add, bv_sub, bv_mul, bv_eql, bv_neq, bv_lss, bv_leq, bv_gtr, bv_geq, bv_quo, bv_rem, bv_shl, bv_shr, bv_seq, bv_sne, bv_ptr, bv_if, bv_map, bv_nf, bv_bool, bv_sl, bv_fn, uv_not, uv_neg, eqV, nilV, nc_ptr, nc_fn, nc_if, Option.map_some, toN, Nat.mul_one, implies_true, true_and, and_true, and_self, Option.isSome_none, Option.getD_none, Bool.not_false]
        refine br_dec (fun _ => ?_) (fun h => absurd (by simp) h)
        simp only [decide_true]
        exact fin w75 last l q (by omega) (by omega) hst2 hb34
      · rw [f2] at h16 h17
        obtain ⟨i, hp, hqi, c1, c2⟩ := hrb n _ f3
        subst hp
        simp only [h16, h17, f1, isB_i, isK_i, isP_i, isTup_i, isInt_i, isSl_i, isPtr_i, isCs_i, isStr_i, isFn_i, isIf_i, rd_i, br_t, br_f, orO_s, orO_n, gd_t, bv_add, bv_sub, bv_mul, bv_eql, bv_neq, bv_lss, bv_leq, bv_gtr, bv_geq, bv_quo, bv_rem, bv_shl, bv_shr, bv_seq, bv_sne, bv_ptr, bv_if, bv_map, bv_nf, bv_bool, bv_sl, bv_fn, uv_not, uv_neg, eqV, nilV, nc_ptr, nc_fn, nc_if, Option.map_some, toN, Nat.mul_one, implies_true, true_and, and_true, and_self, Option.isSome_some, Option.getD_some, Bool.not_true]
        refine br_dec (fun _ => ?_) (fun h => absurd (by simp) h)
        simp only [hrn, hrd, addr_add, Nat.zero_add, isB_i, isK_i, isP_i, isTup_i, isInt_i, isSl_i, isPtr_i, isCs_i, isStr_i, isFn_i, isIf_i, rd_i, br_t, br_f, orO_s, orO_n, gd_t, bv_add, bv_sub, bv_mul, bv_eql, bv_neq, bv_lss, bv_leq, bv_gtr, bv_geq, bv_quo, bv_rem, bv_shl, bv_shr, bv_seq, bv_sne, bv_ptr, bv_if, bv_map, bv_nf, bv_bool, bv_sl, bv_fn, uv_not, uv_neg, eqV, nilV, nc_ptr, nc_fn, nc_if, Option.map_some, toN, Nat.mul_one, implies_true, true_and, and_true, and_self]
        rw [show max (n : Int) 0 = n by omega]
        refine ⟨by omega, ?_⟩
        simp only [toN, c2, isB_i, isK_i, isP_i, isTup_i, isInt_i, isSl_i, isPtr_i, isCs_i, isStr_i, isFn_i, isIf_i, rd_i, br_t, br_f, orO_s, orO_n, gd_t, bv_add, bv_sub, bv_mul, bv_eql, bv_neq, bv_lss, bv_leq, bv_gtr, bv_geq, bv_quo, bv_rem, bv_shl, bv_shr, bv_seq, bv_sne, bv_ptr, bv_if, bv_map, bv_nf, bv_bool, bv_sl, bv_fn, uv_not, uv_neg, eqV, nilV, nc_ptr, nc_fn, nc_if, Option.map_some, toN, Nat.mul_one, implies_true, true_and, and_true, and_self]
        refine br_dec (fun _ => ?_) (fun h => (h trivial).elim)
        exact fin w75 last l q (by omega) (by omega) hst2 hb34
    refine br_dec (fun hk3' => ?_) (fun hk3' => ?_)
    · -- Put
      simp only [k1, k2, isB_i, isK_i, isP_i, isTup_i, isInt_i, isSl_i, isPtr_i, isCs_i, isStr_i, isFn_i, isIf_i, rd_i, br_t, br_f, orO_s, orO_n, gd_t, bv_add, bv_sub, bv_mul, bv_eql, bv_neq, bv_lss, bv_leq, bv_gtr, bv_geq, bv_quo, bv_rem, bv_shl, bv_shr, bv_seq, bv_sne, bv_ptr, bv_if, bv_map, bv_nf, bv_bool, bv_sl, bv_fn, uv_not, uv_neg, eqV, nilV, nc_ptr, nc_fn, nc_if, Option.map_some, toN, Nat.mul_one, implies_true, true_and, and_true, and_self]
      refine (put21_c id' x hst2.tab).mono ?_
      rintro _ w106 ⟨rfl, ht106, hf106⟩
      have hf106' : Fm (fun i => i = B ∨ i = M) w34 w106 := hf106.mono fun i _ e => .inr e
      simp only [isB_i, isK_i, isP_i, isTup_i, isInt_i, isSl_i, isPtr_i, isCs_i, isStr_i, isFn_i, isIf_i, rd_i, br_t, br_f, orO_s, orO_n, gd_t, bv_add, bv_sub, bv_mul, bv_eql, bv_neq, bv_lss, bv_leq, bv_gtr, bv_geq, bv_quo, bv_rem, bv_shl, bv_shr, bv_seq, bv_sne, bv_ptr, bv_if, bv_map, bv_nf, bv_bool, bv_sl, bv_fn, uv_not, uv_neg, eqV, nilV, nc_ptr, nc_fn, nc_if, Option.map_some, toN, Nat.mul_one, implies_true, true_and, and_true, and_self]
      have hb106 := hf106.keep hb34 nM.1
      have hr106 := hst2.ref.keep hf106 t2 fun i hi => (t6 i hi).2.1
      rcases fnd_get id' l with ⟨f1, f2⟩ | ⟨n, v, f1, f2, f3, f4, f5⟩
      · rw [f2] at ht106
        simp only [f1, f2, isB_i, isK_i, isP_i, isTup_i, isInt_i, isSl_i, isPtr_i, isCs_i, isStr_i, isFn_i, isIf_i, rd_i, br_t, br_f, orO_s, orO_n, gd_t, bv_add, bv_sub, bv_mul, bv_eql, bv_neq, bv_lss, bv_leq, bv_gtr, bv_geq, bv_quo, bv_rem, bv_shl, bv_shr, bv_seq, bv_sne, bv_ptr, bv_if, bv_map, bv_nf, bv_bool, bv_sl, bv_fn, uv_not, uv_neg, eqV, nilV, nc_ptr, nc_fn, nc_if, Option.map_some, toN, Nat.mul_one, implies_true, true_and, and_true, and_self, Option.isSome_none]
        rw [decide_eq_true (show (false = decide ((0 : Int) ≤ -1)) by simp)]
        refine stC_one hb106 (by simp) rfl fun w108 hw108 hf108 => ?_
        refine br_dec (fun h => by omega) (fun _ => ?_)
        have hboth := hst2.both hf106' (Fm.refl _ _) ht106 hr106 (.inl rfl) hgd
        exact ⟨last, l, q, by omega, by omega, hboth.box1 hf108 hb106 hn32 (by decide), hw108⟩
      · rw [f2] at ht106
        simp only [f1, f2, isB_i, isK_i, isP_i, isTup_i, isInt_i, isSl_i, isPtr_i, isCs_i, isStr_i, isFn_i, isIf_i, rd_i, br_t, br_f, orO_s, orO_n, gd_t, bv_add, bv_sub, bv_mul, bv_eql, bv_neq, bv_lss, bv_leq, bv_gtr, bv_geq, bv_quo, bv_rem, bv_shl, bv_shr, bv_seq, bv_sne, bv_ptr, bv_if, bv_map, bv_nf, bv_bool, bv_sl, bv_fn, uv_not, uv_neg, eqV, nilV, nc_ptr, nc_fn, nc_if, Option.map_some, toN, Nat.mul_one, implies_true, true_and, and_true, and_self, Option.isSome_some]
        rw [decide_eq_true (show (true = decide ((0 : Int) ≤ (n : Int))) by simp)]
        refine stC_one hb106 (by simp) rfl fun w108 hw108 hf108 => ?_
        refine br_dec (fun _ => ?_) (fun h => by omega)
        have hR108 : RefT w108 Q m last l q := hr106.keep hf108 (fun e => nQ.1 e.symm) fun i hi e => by
          obtain ⟨c, hc⟩ := o4 i hi
          rw [show i = n32 from e, hb34] at hc; cases hc
        obtain ⟨p, c, r0, r1, r2, -, -, hrb⟩ := hR108.reads
        obtain ⟨i, hp, hqi, c1, c2⟩ := hrb n _ f3
        subst hp
        have c8 : w108.cell? ⟨n8, 0, none⟩ = some (.pointer (some ⟨Q, 0, none⟩)) := hf108.cell (hf106.cell hst2.reads.1 t4) fun e => by
          have h8 := hst2.s0.c1; rw [show n8 = n32 from e, hb34] at h8; cases h8
        have k2' : w108.cell? ⟨n22, 2, none⟩ = some (.int .i64 x) := hf108.cell (hf106.cell k2 nM.2) hne
        refine ⟨fun w' => w' = w108.drew, rfl, ?_⟩
        simp only [forall_eq, cell_drew, c8, r2, k2', addr_add, Nat.zero_add, isB_i, isK_i, isP_i, isTup_i, isInt_i, isSl_i, isPtr_i, isCs_i, isStr_i, isFn_i, isIf_i, rd_i, br_t, br_f, orO_s, orO_n, gd_t, bv_add, bv_sub, bv_mul, bv_eql, bv_neq, bv_lss, bv_leq, bv_gtr, bv_geq, bv_quo, bv_rem, bv_shl, bv_shr, bv_seq, bv_sne, bv_ptr, bv_if, bv_map, bv_nf, bv_bool, bv_sl, bv_fn, uv_not, uv_neg, eqV, nilV, nc_ptr, nc_fn, nc_if, Option.map_some, toN, Nat.mul_one, implies_true, true_and, and_true, and_self]
        refine ⟨by omega, ?_⟩
        obtain ⟨p0, c0, hQ0, ho0, hq0⟩ := hR108
        have hp0 : p0 = some ⟨i, 0, none⟩ ∧ c0 = c := by
          have e1 : w108.cell? ⟨Q, 2, none⟩ = some (.slice p0 l.length c0) := cellOf hQ0 rfl
          rw [r2] at e1; cases e1; exact ⟨rfl, rfl⟩
        obtain ⟨rfl, rfl⟩ := hp0
        obtain ⟨cur, hcur, hsz, htk⟩ : ∃ cur, w108.heap[i]? = some (.cells cur 78 (0, 0)) ∧ cur.size = c0 * 2 ∧ cur.toList.take (l.length * 2) = flatT l := by
          rcases ho0.2 with ⟨h, hz⟩ | ⟨gg, cap, cur, hv, -, hb, -, -, hs, ht⟩
          · cases h
          · cases hv; exact ⟨cur, hb, hs, ht⟩
        have hnc := own_cap' ho0
        have hcd : w108.drew.heap[i]? = some (.cells cur 78 (0, 0)) := hcur
        refine stC_one hcd (by omega) rfl fun w140 hw140 hf140 => ?_
        have hiQ : Q ≠ i := fun e => (t6 i hqi).2.2.1 e.symm
        have hR140 : RefT w140 Q m last (l.set n (id', x)) q := by
          refine ⟨some ⟨i, 0, none⟩, c0, ?_, ?_, by rw [← hq0]; rfl⟩
          · rw [List.length_set]; exact hf140.keep (w := w108.drew) hQ0 hiQ
          · refine ⟨flatT_length _, .inr ⟨i, c0, _, by rw [List.length_set], Nat.zero_le _, hw140, by rw [List.length_set]; exact hnc, ?_, by simpa using hsz, ?_⟩⟩
            · rcases ho0.2 with ⟨h, hz⟩ | ⟨gg, cap, cur, hv, -, hb, -, hm, hs, ht⟩
              · cases h
              · cases hv; exact hm
            · rw [List.length_set, Array.toList_setIfInBounds, List.take_set, htk]
              exact flatT_set l n id' x v f3
        have ht140 : TabAt (Value.int .i64) 85 w140 B M Mm last (l.set n (id', x)) := by
          rw [if_pos (by rfl), f5] at ht106
          refine (ht106.keep hf108 (fun e => nB.1 e.symm) fun e => nM.1 e.symm).keep ((Fm.drew w108).none.trans hf140) (fun e => (t6 i hqi).1 e.symm) fun e => (t6 i hqi).2.1 e.symm
        have hF : Fm (fun j => j = M ∨ j = n32 ∨ j = i) w34 w140 := (hf106.mono fun _ _ e => .inl e).trans ((hf108.mono fun _ _ e => .inr (.inl e)).trans ((Fm.drew w108).none.trans (hf140.mono fun _ _ e => .inr (.inr e))))
        obtain ⟨ci, hci⟩ := o4 i hqi
        refine ⟨last, l.set n (id', x), q, by omega, by omega, ⟨hst2.s0.keep hF fun j hj => ?_, ht140, hR140, hst2.hq, hgd.set (v := 0) f3⟩, ?_⟩
        · rcases hj with rfl | rfl | rfl
          · exact ⟨hst2.s0.lo.2.2.1, fun e => t4 e.symm, by rw [o2]; intro e; cases e⟩
          · exact ⟨hn32, ne_obj hb34 hst2.s0.c1 (fun e => by cases e), by rw [hb34]; intro e; cases e⟩
          · exact ⟨hst2.hq _ hqi, (t6 _ hqi).2.2.2, by rw [hci]; intro e; cases e⟩
        · exact hf140.keep (w := w108.drew) hw108 (ne_obj hb34 hci (fun e => by cases e))
    refine br_dec (fun hk4' => ?_) (fun hk4' => ⟨last, l, q, by omega, by omega, hst2, hb34⟩)
    -- Drop
    have c8 := hst2.reads.1
    refine ⟨fun w' => w'.cell? ⟨n22, 1, none⟩ = some (.int .i64 id') ∧ w'.cell? ⟨n8, 0, none⟩ = some (.pointer (some ⟨Q, 0, none⟩)), ⟨k1, c8⟩, ?_⟩
    simp only [cell_drew, k1, c8, isB_i, isK_i, isP_i, isTup_i, isInt_i, isSl_i, isPtr_i, isCs_i, isStr_i, isFn_i, isIf_i, rd_i, br_t, br_f, orO_s, orO_n, gd_t, bv_add, bv_sub, bv_mul, bv_eql, bv_neq, bv_lss, bv_leq, bv_gtr, bv_geq, bv_quo, bv_rem, bv_shl, bv_shr, bv_seq, bv_sne, bv_ptr, bv_if, bv_map, bv_nf, bv_bool, bv_sl, bv_fn, uv_not, uv_neg, eqV, nilV, nc_ptr, nc_fn, nc_if, Option.map_some, toN, Nat.mul_one, implies_true, true_and, and_true, and_self]
    refine ⟨fun w' hw => rd_of hw.1 rfl, fun w' hw => rd_of hw.2 rfl, fun w' hw => rd_of hw.1 rfl, ?_⟩
    have hd34 : Fm none' w34 w34.drew := Fm.drew w34
    refine (drop20_c id' (hst2.tab.keep hd34 id id)).mono ?_
    rintro _ w164 ⟨rfl, ht164, hf164⟩
    simp only [isB_i, isK_i, isP_i, isTup_i, isInt_i, isSl_i, isPtr_i, isCs_i, isStr_i, isFn_i, isIf_i, rd_i, br_t, br_f, orO_s, orO_n, gd_t, bv_add, bv_sub, bv_mul, bv_eql, bv_neq, bv_lss, bv_leq, bv_gtr, bv_geq, bv_quo, bv_rem, bv_shl, bv_shr, bv_seq, bv_sne, bv_ptr, bv_if, bv_map, bv_nf, bv_bool, bv_sl, bv_fn, uv_not, uv_neg, eqV, nilV, nc_ptr, nc_fn, nc_if, Option.map_some, toN, Nat.mul_one, implies_true, true_and, and_true, and_self]
    refine ⟨⟨hf164.cell (w := w34.drew) k1 nM.2, hf164.cell (w := w34.drew) c8 t4⟩, ?_⟩
    have hf164' : Fm (fun i => i = B ∨ i = M) w34 w164 := hd34.none.trans (hf164.mono fun i _ e => .inr e)
    refine (drop40_c id' (hst2.ref.keep hf164' (notBM _ t1 t2) fun i hi => notBM _ (t6 i hi).1 (t6 i hi).2.1) (by omega)).mono ?_
    rintro _ w167 ⟨rfl, ⟨q', hr167, hq'⟩, hf167⟩
    simp only [isB_i, isK_i, isP_i, isTup_i, isInt_i, isSl_i, isPtr_i, isCs_i, isStr_i, isFn_i, isIf_i, rd_i, br_t, br_f, orO_s, orO_n, gd_t, bv_add, bv_sub, bv_mul, bv_eql, bv_neq, bv_lss, bv_leq, bv_gtr, bv_geq, bv_quo, bv_rem, bv_shl, bv_shr, bv_seq, bv_sne, bv_ptr, bv_if, bv_map, bv_nf, bv_bool, bv_sl, bv_fn, uv_not, uv_neg, eqV, nilV, nc_ptr, nc_fn, nc_if, Option.map_some, toN, Nat.mul_one, implies_true, true_and, and_true, and_self]
    simp only [decide_true]
    exact fin w167 last _ q' (by omega) (by omega) (hst2.both hf164' hf167 ht164 hr167 hq' hgd.del) (hf167.keep (hf164'.keep hb34 (notBM _ nB.1 nM.1)) nQ.1)
  clear fin hst2 hb34 hb24' k0 k1 k2 nB nM nQ o1 o2 o3 o4 o5 t6 hgd hlM notBM
  rintro u2 w172 ⟨last', l', q', hb0, hb1, hst3, hb172⟩
  have hlM := hst3.gdl
  refine allocC_of fun w175 hb175 hs175 hf175 => ?_
  refine stC_one hb175 (by simp) rfl fun w176 hb176 hf176 => ?_
  have hW172 := hst3.s0.fm.size
  have hst4 := (hst3.quiet hf175).box1 hf176 hb175 hW172 (by decide)
  have hb32 := hf176.keep (hf175.keep hb172 id) (by have := lt_of_blk hb172; omega)
  have hne2 : n32 ≠ w172.heap.size := by have := lt_of_blk hb172; omega
  generalize hn174 : w172.heap.size = n174 at hb176 hne2 hW172 ⊢
  have hb176 : w176.heap[n174]? = some (.cells #[.int .i64 0] 3 (0, 0)) := hb176
  have hsort : sortT 0 l' = l' := sortT_sorted hst4.gd.1
  refine ⟨fun u w' => S1 W n8 B M Q Mm m last' l' q' (u 1000000) w' ∧ w'.heap[n32]? = some (.cells #[.bool true] 4 (0, 0)) ∧ w'.cell? ⟨n174, 0, none⟩ = some (.int .i64 l'.length), ?_, ?_⟩
  · refine (all37_c ⟨B, 0, none⟩ w176).mono ?_
    rintro _ w179 ⟨rfl, hb179, hs179, hf179⟩
    simp only [isB_i, isK_i, isP_i, isTup_i, isInt_i, isSl_i, isPtr_i, isCs_i, isStr_i, isFn_i, isIf_i, rd_i, br_t, br_f, orO_s, orO_n, gd_t, bv_add, bv_sub, bv_mul, bv_eql, bv_neq, bv_lss, bv_leq, bv_gtr, bv_geq, bv_quo, bv_rem, bv_shl, bv_shr, bv_seq, bv_sne, bv_ptr, bv_if, bv_map, bv_nf, bv_bool, bv_sl, bv_fn, uv_not, uv_neg, eqV, nilV, nc_ptr, nc_fn, nc_if, Option.map_some, toN, Nat.mul_one, implies_true, true_and, and_true, and_self, List.isEmpty_nil, Bool.and_true]
    refine rd_of rfl ?_
    refine rd_of rfl ?_
    have hst5 := hst4.quiet hf179
    have g32 := hf179.keep hb32 id
    have g174 := hf179.keep hb176 id
    have hlt174 := lt_of_blk g174
    obtain ⟨⟨cB', o1⟩, ⟨eM', cM', o2⟩, ⟨cQ', o3⟩, o4, o5⟩ := hst5.objs
    refine ⟨ent46, Int × Int, enc46, KpC w179.heap.size fun i => i = n32 ∨ i = n174, fun ys => ys = sortT 0 l', fun ys => ys <+: sortT 0 l', l'.length,
      fun pre W' => Fm (fun i => i = n32 ∨ i = n174) w179 W' ∧ W'.heap[n174]? = some (.cells #[.int .i64 pre.length] 3 (0, 0)) ∧ W'.heap[n32]? = some (.cells #[.bool (decide (pre <+: l'))] 4 (0, 0)), fun _ _ _ => False,
      seq46 hb179 hst5.tab (by omega) (fun e => e.elim (ne_obj hb179 g32 (fun e => by cases e)) (ne_obj hb179 g174 (fun e => by cases e))) (fun e => e.elim (ne_obj o1 g32 (fun e => by cases e)) (ne_obj o1 g174 (fun e => by cases e))) (fun e => e.elim (ne_obj o2 g32 (fun e => by cases e)) (ne_obj o2 g174 (fun e => by cases e))) (fun i e => e.elim (fun e => by rw [e]; exact lt_of_blk g32) (fun e => by rw [e]; exact hlt174)),
      KpC.t, KpC.b, ?_, fun _ _ _ _ _ h _ _ => h, ?_, ?_, ?_, fun D pre W1 _ hp hx _ => hx.elim, fun _ h => by cases h⟩
    · rintro pre W1 W' row ⟨h1, h2, h3⟩ hg hr
      exact ⟨h1.row_below hg hr (Nat.le_refl _), (row_fm hg).keep h2 (row_ncell hr h2), (row_fm hg).keep h3 (row_ncell hr h3)⟩
    · refine ⟨Fm.refl _ _, g174, ?_⟩
      rw [decide_eq_true List.nil_prefix]; exact g32
    · rintro pre y W1 ⟨h1, h2, h3⟩ hlt
      have hst6 : S1 W n8 B M Q Mm m last' l' q' mk W1 := hst5.box h1 fun i e => by
        rcases e with rfl | rfl
        · exact ⟨hn32, _, _, g32, by decide⟩
        · exact ⟨hW172, _, _, g174, by decide⟩
      obtain ⟨hrn, p, c, hrd, hrb⟩ := hst6.reads
      have h2' : W1.drew.heap[n174]? = some (.cells #[.int .i64 pre.length] 3 (0, 0)) := h2
      have h3' : W1.drew.heap[n32]? = some (.cells #[.bool (decide (pre <+: l'))] 4 (0, 0)) := h3
      have k3 : W1.cell? ⟨n32, 0, none⟩ = some (.bool (decide (pre <+: l'))) := cellOf h3 rfl
      have k4 : W1.cell? ⟨n174, 0, none⟩ = some (.int .i64 pre.length) := cellOf h2 rfl
      have tail : ∀ (t : Bool), t = decide (pre ++ [y] <+: l') → stC W1.drew ⟨n32, 0, none⟩ [.bool t] fun w316 => rd (w316.cell? ⟨n174, 0, none⟩) fun v317 => isK IntKind.i64 v317 fun i318 =>
          stC w316 ⟨n174, 0, none⟩ [.int .i64 (IntKind.i64.wrap (i318 + 1))] fun w319 => KeepsFrom w179.heap.size W1 w319 ∧ KpC w179.heap.size (fun i => i = n32 ∨ i = n174) W1 w319 ∧
          (Fm (fun i => i = n32 ∨ i = n174) w179 w319 ∧ w319.heap[n174]? = some (.cells #[.int .i64 (pre ++ [y]).length] 3 (0, 0)) ∧ w319.heap[n32]? = some (.cells #[.bool (decide (pre ++ [y] <+: l'))] 4 (0, 0))) := by
        rintro t rfl
        refine stC_one h3' (by simp) rfl fun w316 hw316 hf316 => ?_
        have h2'' := hf316.keep h2' (fun e => hne2 e.symm)
        refine rd_of (v := .int .i64 pre.length) (cellOf h2'' rfl) ?_
        simp only [isB_i, isK_i, isP_i, isTup_i, isInt_i, isSl_i, isPtr_i, isCs_i, isStr_i, isFn_i, isIf_i, rd_i, br_t, br_f, orO_s, orO_n, gd_t, bv_add, bv_sub, bv_mul, bv_eql, bv_neq, bv_lss, bv_leq, bv_gtr, bv_geq, bv_quo, bv_rem, bv_shl, bv_shr, bv_seq, bv_sne, bv_ptr, bv_if, bv_map, bv_nf, bv_bool, bv_sl, bv_fn, uv_not, uv_neg, eqV, nilV, nc_ptr, nc_fn, nc_if, Option.map_some, toN, Nat.mul_one, implies_true, true_and, and_true, and_self]
        rw [w64 (by omega)]
        refine stC_one h2'' (by simp) rfl fun w319 hw319 hf319 => ?_
        have hF : Fm (fun i => i = n32 ∨ i = n174) W1 w319 := (Fm.drew W1).none.trans ((hf316.mono fun i _ e => .inl e).trans (hf319.mono fun i _ e => .inr e))
        refine ⟨keeps_of hF fun i e => ?_, KpC.fm hF fun i _ e => e, h1.trans hF, ?_, hf319.keep hw316 hne2⟩
        · rcases e with rfl | rfl
          · exact ⟨_, _, _, h3⟩
          · exact ⟨_, _, _, h2⟩
        · rw [hw319]; simp
      have hpre : ∀ (pre : List (Int × Int)) (y : Int × Int), pre ++ [y] <+: l' ↔ pre <+: l' ∧ l'[pre.length]? = some y := fun pre y => by
        constructor
        · rintro ⟨tl, rfl⟩
          exact ⟨⟨y :: tl, by simp⟩, by simp⟩
        · rintro ⟨⟨tl, rfl⟩, h⟩
          simp only [List.getElem?_append_right (Nat.le_refl _), Nat.sub_self] at h
          cases tl with
          | nil => simp at h
          | cons z tl => simp at h; subst h; exact ⟨tl, by simp⟩
      refine ⟨fun w' => w' = W1.drew, rfl, ?_⟩
      obtain ⟨z, hz⟩ : ∃ z, l'[pre.length]? = some z := ⟨_, List.getElem?_eq_getElem hlt⟩
      obtain ⟨i, hp, hqi, c1, c2⟩ := hrb _ z hz
      subst hp
      simp only [forall_eq, cell_drew, k3, k4, hrn, hrd, addr_add, Nat.zero_add, c1, c2, isB_i, isK_i, isP_i, isTup_i, isInt_i, isSl_i, isPtr_i, isCs_i, isStr_i, isFn_i, isIf_i, rd_i, br_t, br_f, orO_s, orO_n, gd_t, bv_add, bv_sub, bv_mul, bv_eql, bv_neq, bv_lss, bv_leq, bv_gtr, bv_geq, bv_quo, bv_rem, bv_shl, bv_shr, bv_seq, bv_sne, bv_ptr, bv_if, bv_map, bv_nf, bv_bool, bv_sl, bv_fn, uv_not, uv_neg, eqV, nilV, nc_ptr, nc_fn, nc_if, Option.map_some, toN, Nat.mul_one, implies_true, true_and, and_true, and_self]
      refine br_dec (fun hp1 => ?_) (fun hp1 => tail _ (by rw [Eq.comm, decide_eq_false_iff_not, hpre]; exact fun h => hp1 h.1))
      refine br_dec (fun _ => ?_) (fun h => absurd (by omega) h)
      refine ⟨by omega, by omega, ?_⟩
      simp only [enc46, isB_i, isK_i, isP_i, isTup_i, isInt_i, isSl_i, isPtr_i, isCs_i, isStr_i, isFn_i, isIf_i, rd_i, br_t, br_f, orO_s, orO_n, gd_t, bv_add, bv_sub, bv_mul, bv_eql, bv_neq, bv_lss, bv_leq, bv_gtr, bv_geq, bv_quo, bv_rem, bv_shl, bv_shr, bv_seq, bv_sne, bv_ptr, bv_if, bv_map, bv_nf, bv_bool, bv_sl, bv_fn, uv_not, uv_neg, eqV, nilV, nc_ptr, nc_fn, nc_if, Option.map_some, toN, Nat.mul_one, implies_true, true_and, and_true, and_self]
      refine br_dec (fun he => ?_) (fun he => tail _ (by rw [Eq.comm, decide_eq_false_iff_not, hpre, hz]; exact fun h => he (by rw [Option.some.inj h.2])))
      refine ⟨by omega, by omega, ?_⟩
      refine tail _ ?_
      congr 1
      rw [eq_iff_iff, hpre, hz]
      constructor
      · intro h; exact ⟨hp1, by congr 1; exact Prod.ext he h⟩
      · intro h; rw [Option.some.inj h.2]
    · rintro D ys W1 hD rfl ⟨h1, h2, h3⟩ hd
      have hst6 : S1 W n8 B M Q Mm m last' l' q' mk W1 := hst5.box h1 fun i e => by
        rcases e with rfl | rfl
        · exact ⟨hn32, _, _, g32, by decide⟩
        · exact ⟨hW172, _, _, g174, by decide⟩
      rw [hsort] at h2 h3
      rw [decide_eq_true (List.prefix_refl _)] at h3
      refine ⟨hst6.push (D := D) (by have := hst5.s0.fm.size; omega) hd fun ds he hm => ?_, h3, cellOf h2 rfl⟩
      have := hst5.s0.marks.lt ds he D hm; omega
  · rintro u4 w357 ⟨hst7, hb7, hc7⟩
    change S1 W n8 B M Q Mm m last' l' q' (u4 1000000) w357 at hst7
    obtain ⟨hrn, p, c, hrd, hrb⟩ := hst7.reads
    have k3 : w357.cell? ⟨n32, 0, none⟩ = some (.bool true) := cellOf hb7 rfl
    refine ⟨fun w' => w' = w357.drew, rfl, ?_⟩
    simp only [forall_eq, cell_drew, k3, hc7, hrn, hrd, addr_add, Nat.zero_add, Bool.not_true, isB_i, isK_i, isP_i, isTup_i, isInt_i, isSl_i, isPtr_i, isCs_i, isStr_i, isFn_i, isIf_i, rd_i, br_t, br_f, orO_s, orO_n, gd_t, bv_add, bv_sub, bv_mul, bv_eql, bv_neq, bv_lss, bv_leq, bv_gtr, bv_geq, bv_quo, bv_rem, bv_shl, bv_shr, bv_seq, bv_sne, bv_ptr, bv_if, bv_map, bv_nf, bv_bool, bv_sl, bv_fn, uv_not, uv_neg, eqV, nilV, nc_ptr, nc_fn, nc_if, Option.map_some, toN, Nat.mul_one, implies_true, true_and, and_true, and_self]
    refine br_ndec (fun h => (h trivial).elim) (fun _ => ?_)
    have hst8 := hst7.quiet (Fm.drew w357)
    refine (len17_c hst8.tab).mono ?_
    rintro _ w420 ⟨rfl, rfl⟩
    simp only [isB_i, isK_i, isP_i, isTup_i, isInt_i, isSl_i, isPtr_i, isCs_i, isStr_i, isFn_i, isIf_i, rd_i, br_t, br_f, orO_s, orO_n, gd_t, bv_add, bv_sub, bv_mul, bv_eql, bv_neq, bv_lss, bv_leq, bv_gtr, bv_geq, bv_quo, bv_rem, bv_shl, bv_shr, bv_seq, bv_sne, bv_ptr, bv_if, bv_map, bv_nf, bv_bool, bv_sl, bv_fn, uv_not, uv_neg, eqV, nilV, nc_ptr, nc_fn, nc_if, Option.map_some, toN, Nat.mul_one, implies_true, true_and, and_true, and_self]
    refine br_ndec (fun h => (h trivial).elim) (fun _ => ?_)
    exact ⟨last', l', q', hb0, hb1, hst8⟩
end Go.Proofs.Ytlhgibiffekpfaa
