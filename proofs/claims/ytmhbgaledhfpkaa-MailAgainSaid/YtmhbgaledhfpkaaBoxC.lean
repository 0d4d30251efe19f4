/- The contracts of a box's calls: New, Put, Len, Lost, Take, Drain, at strings and at numbers.  Conditions: the box lies as it is said to lie. -/
import Derived.Test.YtmhbgaledhfpkaaBox
namespace Go.Proofs.Ytmhbgaledhfpkaa
set_option linter.unusedSimpArgs false
set_option linter.unusedVariables false
open Go Go.RowKit Go.Conc VC

/-! ### boxes of strings -/
theorem new8_c (a : Int) (w : World) : callV Try.prog 8 [.int .i64 a] w fun v w' => ∃ B C, v = .pointer (some ⟨B, 0, none⟩) ∧ w.heap.size ≤ B ∧ w.heap.size ≤ C ∧ BoxAt 51 w' B C (room a) [] 0 ∧ Fm none' w w' := by
  have hi : (Try.prog.info? 9).map (·.bytes) = some 16 := by kernel_rfl
  obtain ⟨i, hi, hb⟩ := Option.map_eq_some_iff.1 hi
  exact vc8 a w _ (new_of (bt := 51) (R := fun v w' => ∃ B C, v = .pointer (some ⟨B, 0, none⟩) ∧ w.heap.size ≤ B ∧ w.heap.size ≤ C ∧ BoxAt 51 w' B C (room a) [] 0 ∧ Fm none' w w') (mkChan 49 9 _ i Try.underlying49 hi (by omega) a w) fun B C w' hB hC hx hf => ⟨B, C, rfl, hB, hC, hx, hf⟩)
theorem put9_c {B C cap : Nat} {buf : List Value} {lost : Int} {w : World} (x : Value) (h : BoxAt 51 w B C cap buf lost) (h0 : 0 ≤ lost) (h1 : lost < 4611686018427387904) :
    callV Try.prog 9 [.pointer (some ⟨B, 0, none⟩), x] w fun v w' => v = .bool (decide (buf.length < cap)) ∧ BoxAt 51 w' B C cap (if buf.length < cap then buf ++ [x] else buf) (if buf.length < cap then lost else lost + 1) ∧ Fm (fun i => i = B ∨ i = C) w w' := by
  obtain ⟨hB, s, r, hC⟩ := h
  have hne : B ≠ C := by rintro rfl; rw [hB] at hC; cases hC
  by_cases hr : buf.length < cap
  · refine callV_of ent9 (put9_room B C cap s r buf.toArray lost x w hB hC (by simpa using hr)) ?_
    rintro e w' ⟨rfl, rfl⟩
    have hf := Fm.setChan w C cap (buf.toArray.push x) false (s + 1) r false
    refine ⟨_, rfl, by simp [hr], ?_, hf.mono fun _ _ h => .inr h⟩
    rw [if_pos hr, if_pos hr]
    exact ⟨hf.keep hB hne, s + 1, r, by rw [heap_setChan _ _ _ _ _ _ _ _ (lt_of_blk hC)]; simp⟩
  · refine callV_of ent9 (put9_full B C cap s r buf.toArray lost x w hB hC (by simpa using Nat.le_of_not_lt hr)) ?_
    rintro e w' ⟨rfl, rfl⟩
    have hf := Fm.setCell w ⟨B, 1, none⟩ (.int .i64 (IntKind.i64.wrap (lost + 1)))
    have hw : IntKind.i64.wrap (lost + 1) = lost + 1 := by rw [IntKind.wrap_i64]; omega
    refine ⟨_, rfl, by simp [hr], ?_, hf.mono fun _ _ h => .inl h⟩
    rw [if_neg hr, if_neg hr]
    refine ⟨?_, s, r, hf.keep hC (fun e => hne e.symm)⟩
    rw [setOf hB, hw]
    rfl
theorem len10_c {B C cap : Nat} {buf : List Value} {lost : Int} {w : World} (h : BoxAt 51 w B C cap buf lost) :
    callV Try.prog 10 [.pointer (some ⟨B, 0, none⟩)] w fun v w' => v = .int .i64 buf.length ∧ w' = w := by
  obtain ⟨hB, s, r, hC⟩ := h
  refine vc10 ⟨B, 0, none⟩ w _ (rd_of (cellOf hB rfl) ?_)
  refine ⟨_, _, run_len_chan 49 3 Try.underlying49 hC, ?_, rfl⟩
  simp [goInt]
theorem lost11_c {B C cap : Nat} {buf : List Value} {lost : Int} {w : World} (h : BoxAt 51 w B C cap buf lost) :
    callV Try.prog 11 [.pointer (some ⟨B, 0, none⟩)] w fun v w' => v = .int .i64 lost ∧ w' = w :=
  vc11 ⟨B, 0, none⟩ w _ (rd_of (cellOf h.1 (i := 0 + 1) rfl) ⟨rfl, rfl⟩)
theorem take12_c {B C cap : Nat} {buf : List Value} {lost : Int} {w : World} (h : BoxAt 51 w B C cap buf lost) :
    callV Try.prog 12 [.pointer (some ⟨B, 0, none⟩)] w fun v w' => v = .tuple #[buf.headD (.string ⟨#[]⟩), .bool (!buf.isEmpty)] ∧ BoxAt 51 w' B C cap buf.tail lost ∧ Fm (fun i => i = C) w w' := by
  obtain ⟨hB, s, r, hC⟩ := h
  have hne : B ≠ C := by rintro rfl; rw [hB] at hC; cases hC
  cases buf with
  | nil =>
    refine callV_of ent12 (take12_none B C cap s r lost w hB hC) ?_
    rintro e w' ⟨rfl, rfl⟩
    exact ⟨_, rfl, rfl, ⟨hB, s, r, hC⟩, Fm.refl _ _⟩
  | cons x buf =>
    refine callV_of ent12 (take12_some B C cap s r (x :: buf).toArray lost w hB hC (by simp)) ?_
    rintro e w' ⟨rfl, rfl⟩
    have hf := Fm.setChan w C cap ((x :: buf).toArray.extract 1 (x :: buf).toArray.size) false s (r + 1) false
    refine ⟨_, rfl, rfl, ⟨hf.keep hB hne, s, r + 1, ?_⟩, hf⟩
    rw [heap_setChan _ _ _ _ _ _ _ _ (lt_of_blk hC)]
    simp
theorem drain24_c {B C cap : Nat} {buf : List Value} {lost : Int} {w : World} (h : BoxAt 51 w B C cap buf lost) (h1 : ∀ x ∈ buf, x.oneCell' = true) (hn : buf.length ≤ 4096) :
    callV Try.prog 24 [.pointer (some ⟨B, 0, none⟩)] w fun v w' => BoxAt 51 w' B C cap [] lost ∧ w'.ownsRow w.heap.size 9 1 v buf.length buf ∧ Fm (fun i => i = C) w w' := by
  refine vc24 ⟨B, 0, none⟩ w _ ?_
  refine ⟨fun u w' => ∃ k, k ≤ buf.length ∧ BoxAt 51 w' B C cap (buf.drop k) lost ∧ w'.ownsRow w.heap.size 9 1 (u 3) k (buf.take k) ∧ Fm (fun i => i = C) w w', fun _ w' => match w'.heap[C]? with | some (.chan _ b _ _ _ _) => b.size | _ => 0, ?_, ?_⟩
  · exact ⟨0, Nat.zero_le _, by simpa using h, by rw [List.take_zero]; exact World.ownsRow_nil w w.heap.size 9 1, Fm.refl _ _⟩
  · rintro u w' ⟨k, hk, hb, ho, hf⟩
    change w'.ownsRow _ _ _ (u 3) k _ at ho
    refine (take12_c hb).mono ?_
    rintro _ w1 ⟨rfl, hb1, hf1⟩
    obtain ⟨hb0, s, r, hC⟩ := hb
    have hCB : C < w.heap.size := lt_of_blk (h.2.choose_spec.choose_spec)
    by_cases hkl : k < buf.length
    · obtain ⟨x, rest, hx⟩ : ∃ x rest, buf.drop k = x :: rest := by
        cases hd : buf.drop k with
        | nil => simp at hd; omega
        | cons x rest => exact ⟨x, rest, rfl⟩
      have hx1 : buf[k]? = some x := by have : (buf.drop k)[0]? = some x := by rw [hx]; rfl
                                        simpa using this
      have hxm : x ∈ buf := List.mem_of_getElem? hx1
      rw [hx] at hb1 hC ⊢
      have ho1 : w1.ownsRow w.heap.size 9 1 (u 3) k (buf.take k) := by
        refine ⟨ho.1, ?_⟩
        rcases ho.2 with hn' | ⟨g, cp, cur, hv, hg, hgg, rest'⟩
        · exact .inl hn'
        · refine .inr ⟨g, cp, cur, hv, hg, hf1.keep hgg (fun e => ?_), rest'⟩
          subst e; rw [hC] at hgg; cases hgg
      refine append_one (k := _) (by rw [row22]) row9 rfl (h1 x hxm) ho1 (Nat.le_trans hf.size hf1.size) (by unfold maxLen; omega) (by omega) ?_
      intro v' w2 ho2 hf2 _
      have hS : ∀ i, i < w1.heap.size → (u 3).ownBlock = some i → w.heap.size ≤ i := fun i _ hi => (ho1.lt i hi).1
      have hb2 : BoxAt 51 w2 B C cap rest lost := by
        obtain ⟨q1, s1, r1, q2⟩ := hb1
        have hBB : B < w.heap.size := lt_of_blk h.1
        exact ⟨hf2.keep q1 (fun e => by have := hS _ (lt_of_blk q1) e; omega), s1, r1, hf2.keep q2 (fun e => by have := hS _ (lt_of_blk q2) e; omega)⟩
      have hdr : buf.drop (k + 1) = rest := by rw [← List.tail_drop, hx]; rfl
      have htk : buf.take (k + 1) = buf.take k ++ [x] := by rw [List.take_add_one, hx1]; rfl
      refine ⟨⟨k + 1, hkl, by rw [hdr]; exact hb2, by rw [htk]; exact ho2, (hf.trans hf1).trans' hf2 fun i hi hs => ?_⟩, ?_⟩
      · have := hS i (by have := (hf.trans hf1).size; omega) hs; omega
      · obtain ⟨_, s1, r1, q2⟩ := hb2
        simp only [hC, q2]
        simp
    · have hke : k = buf.length := by omega
      subst hke
      rw [List.drop_length] at hb1 ⊢
      refine ⟨hb1, ?_, hf.trans hf1⟩
      rw [List.take_length] at ho
      refine ⟨ho.1, ?_⟩
      rcases ho.2 with hn' | ⟨g, cp, cur, hv, hg, hgg, rest'⟩
      · exact .inl hn'
      · exact .inr ⟨g, cp, cur, hv, hg, hf1.keep hgg (fun e => by subst e; rw [hC] at hgg; cases hgg), rest'⟩

/-! ### boxes of numbers -/
theorem new13_c (a : Int) (w : World) : callV Try.prog 13 [.int .i64 a] w fun v w' => ∃ B C, v = .pointer (some ⟨B, 0, none⟩) ∧ w.heap.size ≤ B ∧ w.heap.size ≤ C ∧ BoxAt 54 w' B C (room a) [] 0 ∧ Fm none' w w' := by
  have hi : (Try.prog.info? 3).map (·.bytes) = some 8 := by kernel_rfl
  obtain ⟨i, hi, hb⟩ := Option.map_eq_some_iff.1 hi
  exact vc13 a w _ (new_of (bt := 54) (R := fun v w' => ∃ B C, v = .pointer (some ⟨B, 0, none⟩) ∧ w.heap.size ≤ B ∧ w.heap.size ≤ C ∧ BoxAt 54 w' B C (room a) [] 0 ∧ Fm none' w w') (mkChan 52 3 _ i Try.underlying52 hi (by omega) a w) fun B C w' hB hC hx hf => ⟨B, C, rfl, hB, hC, hx, hf⟩)
theorem put15_c {B C cap : Nat} {buf : List Value} {lost : Int} {w : World} (x : Value) (h : BoxAt 54 w B C cap buf lost) (h0 : 0 ≤ lost) (h1 : lost < 4611686018427387904) :
    callV Try.prog 15 [.pointer (some ⟨B, 0, none⟩), x] w fun v w' => v = .bool (decide (buf.length < cap)) ∧ BoxAt 54 w' B C cap (if buf.length < cap then buf ++ [x] else buf) (if buf.length < cap then lost else lost + 1) ∧ Fm (fun i => i = B ∨ i = C) w w' := by
  obtain ⟨hB, s, r, hC⟩ := h
  have hne : B ≠ C := by rintro rfl; rw [hB] at hC; cases hC
  by_cases hr : buf.length < cap
  · refine callV_of ent15 (put15_room B C cap s r buf.toArray lost x w hB hC (by simpa using hr)) ?_
    rintro e w' ⟨rfl, rfl⟩
    have hf := Fm.setChan w C cap (buf.toArray.push x) false (s + 1) r false
    refine ⟨_, rfl, by simp [hr], ?_, hf.mono fun _ _ h => .inr h⟩
    rw [if_pos hr, if_pos hr]
    exact ⟨hf.keep hB hne, s + 1, r, by rw [heap_setChan _ _ _ _ _ _ _ _ (lt_of_blk hC)]; simp⟩
  · refine callV_of ent15 (put15_full B C cap s r buf.toArray lost x w hB hC (by simpa using Nat.le_of_not_lt hr)) ?_
    rintro e w' ⟨rfl, rfl⟩
    have hf := Fm.setCell w ⟨B, 1, none⟩ (.int .i64 (IntKind.i64.wrap (lost + 1)))
    have hw : IntKind.i64.wrap (lost + 1) = lost + 1 := by rw [IntKind.wrap_i64]; omega
    refine ⟨_, rfl, by simp [hr], ?_, hf.mono fun _ _ h => .inl h⟩
    rw [if_neg hr, if_neg hr]
    refine ⟨?_, s, r, hf.keep hC (fun e => hne e.symm)⟩
    rw [setOf hB, hw]
    rfl
theorem len23_c {B C cap : Nat} {buf : List Value} {lost : Int} {w : World} (h : BoxAt 54 w B C cap buf lost) :
    callV Try.prog 23 [.pointer (some ⟨B, 0, none⟩)] w fun v w' => v = .int .i64 buf.length ∧ w' = w := by
  obtain ⟨hB, s, r, hC⟩ := h
  refine vc23 ⟨B, 0, none⟩ w _ (rd_of (cellOf hB rfl) ?_)
  refine ⟨_, _, run_len_chan 52 3 Try.underlying52 hC, ?_, rfl⟩
  simp [goInt]
theorem lost19_c {B C cap : Nat} {buf : List Value} {lost : Int} {w : World} (h : BoxAt 54 w B C cap buf lost) :
    callV Try.prog 19 [.pointer (some ⟨B, 0, none⟩)] w fun v w' => v = .int .i64 lost ∧ w' = w :=
  vc19 ⟨B, 0, none⟩ w _ (rd_of (cellOf h.1 (i := 0 + 1) rfl) ⟨rfl, rfl⟩)
theorem take17_c {B C cap : Nat} {buf : List Value} {lost : Int} {w : World} (h : BoxAt 54 w B C cap buf lost) :
    callV Try.prog 17 [.pointer (some ⟨B, 0, none⟩)] w fun v w' => v = .tuple #[buf.headD (.int .i64 0), .bool (!buf.isEmpty)] ∧ BoxAt 54 w' B C cap buf.tail lost ∧ Fm (fun i => i = C) w w' := by
  obtain ⟨hB, s, r, hC⟩ := h
  have hne : B ≠ C := by rintro rfl; rw [hB] at hC; cases hC
  cases buf with
  | nil =>
    refine callV_of ent17 (take17_none B C cap s r lost w hB hC) ?_
    rintro e w' ⟨rfl, rfl⟩
    exact ⟨_, rfl, rfl, ⟨hB, s, r, hC⟩, Fm.refl _ _⟩
  | cons x buf =>
    refine callV_of ent17 (take17_some B C cap s r (x :: buf).toArray lost w hB hC (by simp)) ?_
    rintro e w' ⟨rfl, rfl⟩
    have hf := Fm.setChan w C cap ((x :: buf).toArray.extract 1 (x :: buf).toArray.size) false s (r + 1) false
    refine ⟨_, rfl, rfl, ⟨hf.keep hB hne, s, r + 1, ?_⟩, hf⟩
    rw [heap_setChan _ _ _ _ _ _ _ _ (lt_of_blk hC)]
    simp
theorem drain21_c {B C cap : Nat} {buf : List Value} {lost : Int} {w : World} (h : BoxAt 54 w B C cap buf lost) (h1 : ∀ x ∈ buf, x.oneCell' = true) (hn : buf.length ≤ 4096) :
    callV Try.prog 21 [.pointer (some ⟨B, 0, none⟩)] w fun v w' => BoxAt 54 w' B C cap [] lost ∧ w'.ownsRow w.heap.size 3 1 v buf.length buf ∧ Fm (fun i => i = C) w w' := by
  refine vc21 ⟨B, 0, none⟩ w _ ?_
  refine ⟨fun u w' => ∃ k, k ≤ buf.length ∧ BoxAt 54 w' B C cap (buf.drop k) lost ∧ w'.ownsRow w.heap.size 3 1 (u 3) k (buf.take k) ∧ Fm (fun i => i = C) w w', fun _ w' => match w'.heap[C]? with | some (.chan _ b _ _ _ _) => b.size | _ => 0, ?_, ?_⟩
  · exact ⟨0, Nat.zero_le _, by simpa using h, by rw [List.take_zero]; exact World.ownsRow_nil w w.heap.size 3 1, Fm.refl _ _⟩
  · rintro u w' ⟨k, hk, hb, ho, hf⟩
    change w'.ownsRow _ _ _ (u 3) k _ at ho
    refine (take17_c hb).mono ?_
    rintro _ w1 ⟨rfl, hb1, hf1⟩
    obtain ⟨hb0, s, r, hC⟩ := hb
    have hCB : C < w.heap.size := lt_of_blk (h.2.choose_spec.choose_spec)
    by_cases hkl : k < buf.length
    · obtain ⟨x, rest, hx⟩ : ∃ x rest, buf.drop k = x :: rest := by
        cases hd : buf.drop k with
        | nil => simp at hd; omega
        | cons x rest => exact ⟨x, rest, rfl⟩
      have hx1 : buf[k]? = some x := by have : (buf.drop k)[0]? = some x := by rw [hx]; rfl
                                        simpa using this
      have hxm : x ∈ buf := List.mem_of_getElem? hx1
      rw [hx] at hb1 hC ⊢
      have ho1 : w1.ownsRow w.heap.size 3 1 (u 3) k (buf.take k) := by
        refine ⟨ho.1, ?_⟩
        rcases ho.2 with hn' | ⟨g, cp, cur, hv, hg, hgg, rest'⟩
        · exact .inl hn'
        · refine .inr ⟨g, cp, cur, hv, hg, hf1.keep hgg (fun e => ?_), rest'⟩
          subst e; rw [hC] at hgg; cases hgg
      refine append_one (k := _) (by rw [row41]) row3 rfl (h1 x hxm) ho1 (Nat.le_trans hf.size hf1.size) (by unfold maxLen; omega) (by omega) ?_
      intro v' w2 ho2 hf2 _
      have hS : ∀ i, i < w1.heap.size → (u 3).ownBlock = some i → w.heap.size ≤ i := fun i _ hi => (ho1.lt i hi).1
      have hb2 : BoxAt 54 w2 B C cap rest lost := by
        obtain ⟨q1, s1, r1, q2⟩ := hb1
        have hBB : B < w.heap.size := lt_of_blk h.1
        exact ⟨hf2.keep q1 (fun e => by have := hS _ (lt_of_blk q1) e; omega), s1, r1, hf2.keep q2 (fun e => by have := hS _ (lt_of_blk q2) e; omega)⟩
      have hdr : buf.drop (k + 1) = rest := by rw [← List.tail_drop, hx]; rfl
      have htk : buf.take (k + 1) = buf.take k ++ [x] := by rw [List.take_add_one, hx1]; rfl
      refine ⟨⟨k + 1, hkl, by rw [hdr]; exact hb2, by rw [htk]; exact ho2, (hf.trans hf1).trans' hf2 fun i hi hs => ?_⟩, ?_⟩
      · have := hS i (by have := (hf.trans hf1).size; omega) hs; omega
      · obtain ⟨_, s1, r1, q2⟩ := hb2
        simp only [hC, q2]
        simp
    · have hke : k = buf.length := by omega
      subst hke
      rw [List.drop_length] at hb1 ⊢
      refine ⟨hb1, ?_, hf.trans hf1⟩
      rw [List.take_length] at ho
      refine ⟨ho.1, ?_⟩
      rcases ho.2 with hn' | ⟨g, cp, cur, hv, hg, hgg, rest'⟩
      · exact .inl hn'
      · exact .inr ⟨g, cp, cur, hv, hg, hf1.keep hgg (fun e => by subst e; rw [hC] at hgg; cases hgg), rest'⟩
end Go.Proofs.Ytmhbgaledhfpkaa
