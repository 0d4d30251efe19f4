/- message's laws: rows of messages put together.  Conditions: the messages may be read. -/
import Derived.Test.YtfekkdmnboccfaaSiz
namespace Go.Proofs.Ytfekkdmnboccfaa
set_option linter.unusedSimpArgs false
set_option linter.unusedVariables false
open Go Go.RowKit VC
section
variable {P : Program} {w : World}
theorem appendS_none {t e : TypeId} {k : K} {size by_ : Nat} {z : Value} {n c c' : Nat} {b : Option Addr} {KK : Value → World → Prop} (ht : (row P t).k = .slice e) (he : row P e = ⟨k, size, by_, some z⟩) (hnc : n ≤ c) (kk : KK (.slice b n c) w) :
    runs P (Builtin.append_ #[t, t] t #[.slice b n c, .slice none 0 c']) w KK := by
  obtain ⟨i, hi, hz, hsi, hbt⟩ := info_of_row he
  have hu := slice_of_row ht
  refine ⟨_, _, ?_, kk⟩
  cases b with
  | none => simp [Builtin.append_, run_underlying hu, run_size hi, hsi, Builtin.lenOf, hnc, Builtin.firstCells]
  | some a => simp [Builtin.append_, run_underlying hu, run_size hi, hsi, Builtin.lenOf, hnc, Builtin.firstCells, storeCells]
theorem appendS_at {t e : TypeId} {k : K} {size by_ : Nat} {z s : Value} {n base m c : Nat} {xs news : List Value} {a : Addr} {KK : Value → World → Prop} (ht : (row P t).k = .slice e) (he : row P e = ⟨k, size, by_, some z⟩) (hzs : z.cells.size = size) (hsz : 0 < size)
    (hown : w.ownsRow base e size s n xs) (hl : news.length = m * size) (hnews : ∀ j u, news[j]? = some u → w.cell? (a.add j) = some u) (h1 : ∀ u ∈ news, u.oneCell' = true) (hb : base ≤ w.heap.size) (h63 : n + m ≤ maxLen) (hby : (n + m) * by_ ≤ 140737488355328)
    (kk : ∀ v' w', w'.ownsRow base e size v' (n + m) (xs ++ news) → Fm (fun i => s.ownBlock = some i) w w' → KK v' w') :
    runs P (Builtin.append_ #[t, t] t #[s, .slice (some a) m c]) w KK := by
  obtain ⟨i, hi, hz, hsi, hbt⟩ := info_of_row he
  have hu := slice_of_row ht
  obtain ⟨v', w', hr, hown', hg, hnil, hblk⟩ := run_append_own_at (P := P) w base t t e i z size by_ hu hi hz hsi hbt hzs hsz s n xs hown a m c news hl hnews h1 h63 hby hb
  exact ⟨v', w', hr, kk v' w' hown' (Fm.grown hg)⟩
theorem buildS_none {t e : TypeId} {k : K} {size b : Nat} {z : Value} {KK : Value → World → Prop} (ht : (row P t).k = .slice e) (he : row P e = ⟨k, size, b, some z⟩)
    (kk : ∀ s w', w'.ownsRow w.heap.size e size s 0 [] → Fm none' w w' → KK s w') : runs P (Instr.buildSlice t 0 #[]) w KK := by
  obtain ⟨i, hi, hz, hsz, hbt⟩ := info_of_row he
  have hu := slice_of_row ht
  have hr : Array.range 0 = #[] := rfl
  have hbuild : (Instr.buildSlice t 0 #[]).run P w = .ok (.slice (some ⟨w.heap.size, 0, none⟩) 0 0) (w.alloc (.cells #[] e)) := by
    simp [Instr.buildSlice, run_underlying hu, run_size hi, hsz, run_zero hi hz, Instr.fill, newRow, hr]
  refine ⟨_, _, hbuild, kk _ _ ⟨by simp, .inr ⟨_, 0, #[], rfl, Nat.le_refl _, by simpa using heap_alloc_new w (.cells #[] e), Nat.le_refl _, by simp [maxLen], by simp, by simp⟩⟩ (Fm.alloc w _)⟩
end
variable {w : World}
theorem MsgsAt.qs {N : Nat} {p : Option Addr} {ms : List Msg} (h : MsgsAt w N p ms) : ∃ qs : List (Option Addr × Nat), qs.length = ms.length ∧ ∀ (j : Nat) (m : Msg) (q : Option Addr × Nat), ms[j]? = some m → qs[j]? = some q →
    ∃ ad, p = some ad ∧ cellsAt w (ad.add (j * 23)) 23 = some (msgC m q.1 q.2) ∧ BytesAt w q.1 m.bytes ∧ (∀ ad', q.1 = some ad' → m.bytes ≠ [] → ad'.block < N) := by
  have key : ∀ j, ∃ q : Option Addr × Nat, ∀ m, ms[j]? = some m → ∃ ad, p = some ad ∧ cellsAt w (ad.add (j * 23)) 23 = some (msgC m q.1 q.2) ∧ BytesAt w q.1 m.bytes ∧ (∀ ad', q.1 = some ad' → m.bytes ≠ [] → ad'.block < N) := by
    intro j
    cases hj : ms[j]? with
    | none => exact ⟨(none, 0), fun m h => by cases h⟩
    | some m =>
      obtain ⟨ad, q, cq, e, hb, hc, hq, hqb⟩ := h j m hj
      exact ⟨(q, cq), fun m' h => by cases h; exact ⟨ad, e, hc, hq, hqb⟩⟩
  obtain ⟨f, hf⟩ : ∃ f : Nat → Option Addr × Nat, ∀ j m, ms[j]? = some m → ∃ ad, p = some ad ∧ cellsAt w (ad.add (j * 23)) 23 = some (msgC m (f j).1 (f j).2) ∧ BytesAt w (f j).1 m.bytes ∧ (∀ ad', (f j).1 = some ad' → m.bytes ≠ [] → ad'.block < N) :=
    ⟨fun j => Classical.choose (key j), fun j => Classical.choose_spec (key j)⟩
  refine ⟨(List.range ms.length).map f, by simp, fun j m q hj hq => ?_⟩
  have hjl := (List.getElem?_eq_some_iff.1 hj).1
  rw [List.getElem?_map, List.getElem?_range hjl] at hq
  cases hq
  exact hf j m hj
theorem flat_at {α : Type} {f : α → List Value} {k : Nat} (hf : ∀ x, (f x).length = k) : ∀ (l : List α) (i : Nat) (v : Value), (l.flatMap f)[i]? = some v → ∃ j r x, i = j * k + r ∧ r < k ∧ l[j]? = some x ∧ (f x)[r]? = some v := by
  intro l
  induction l with
  | nil => intro i v h; simp at h
  | cons y l ih =>
    intro i v h
    rw [List.flatMap_cons] at h
    by_cases hi : i < k
    · rw [List.getElem?_append_left (by rw [hf]; exact hi)] at h
      exact ⟨0, i, y, by omega, hi, rfl, h⟩
    · rw [List.getElem?_append_right (by rw [hf]; omega), hf] at h
      obtain ⟨j, r, x, h1, h2, h3, h4⟩ := ih _ _ h
      exact ⟨j + 1, r, x, by rw [Nat.succ_mul]; omega, h2, by simpa using h3, h4⟩
theorem flat_len {α : Type} {f : α → List Value} {k : Nat} (hf : ∀ x, (f x).length = k) : ∀ (l : List α), (l.flatMap f).length = l.length * k := by
  intro l
  induction l with
  | nil => simp
  | cons y l ih => rw [List.flatMap_cons, List.length_append, ih, hf, List.length_cons, Nat.succ_mul]; omega
/-- A row of messages, appended to an empty slice. -/
theorem app_rows {base N : Nat} {s : Value} {p : Option Addr} {l : List Msg} {n c : Nat} {KK : Value → World → Prop} (hn : n = l.length) (hown : w.ownsRow base 40 23 s 0 []) (hm : MsgsAt w N p l) (hN : N ≤ base) (hb : base ≤ w.heap.size) (hl : l.length ≤ 1000)
    (kk : ∀ v' w', RowMsgs w' base N v' l → Fm (fun i => s.ownBlock = some i) w w' → KK v' w') : runs Try.prog (Builtin.append_ #[22, 22] 22 #[s, .slice p n c]) w KK := by
  subst hn
  obtain ⟨qs, hql, hq⟩ := hm.qs
  have hsN : ∀ i, s.ownBlock = some i → N ≤ i := fun i hi => by have := (own_block hown hi).1; omega
  cases p with
  | none =>
    have : l = [] := by
      cases l with
      | nil => rfl
      | cons m l => obtain ⟨ad, q, cq, e, _⟩ := hm 0 m rfl; cases e
    subst this
    obtain ⟨b, cb, rfl, -, -⟩ := own_readS hown
    exact appendS_none (by rw [row22]) row40 (Nat.zero_le _) (kk _ _ ⟨[], rfl, hown, fun j m q h => by simp at h⟩ (Fm.refl _ _))
  | some a =>
    refine appendS_at (news := (l.zip qs).flatMap fun x => msgC x.1 x.2.1 x.2.2) (by rw [row22]) row40 rfl (by omega) hown ?_ (fun i v hv => ?_) (fun u hu => ?_) hb (by simp only [maxLen]; omega) (by omega) fun v' w' hv' hf' => ?_
    · rw [flat_len (k := 23) (fun _ => rfl), List.length_zip, hql]; simp
    · obtain ⟨j, r, x, rfl, hr, hx, hv⟩ := flat_at (k := 23) (fun _ => rfl) _ _ _ hv
      rw [List.getElem?_zip_eq_some] at hx
      obtain ⟨ad, e, hc, -⟩ := hq j x.1 x.2 hx.1 hx.2
      cases e
      have := (cellsAt_length hc).2 r v hv
      rw [add_add] at this; exact this
    · obtain ⟨x, _, hu⟩ := List.mem_flatMap.1 hu
      exact msgC_one u hu
    · rw [Nat.zero_add] at hv'
      refine kk v' w' ⟨qs, hql, hv', fun j m q hj hq' => ?_⟩ hf'
      obtain ⟨ad, e, hc, hb1, hb2⟩ := hq j m q hj hq'
      exact ⟨hb1.keepN hf' fun ad' e' hne hs => by have := hsN _ hs; have := hb2 ad' e' hne; omega, hb2⟩
theorem RowMsgs.snoc {w w' : World} {base N : Nat} {s v' : Value} {l : List Msg} {m : Msg} {q : Option Addr} {cq : Nat} {xs : List Value} (h : RowMsgs w base N s l) (hN : N ≤ base) (hxs : ∀ qs : List (Option Addr × Nat), qs.length = l.length → w.ownsRow base 40 23 s l.length ((l.zip qs).flatMap fun x => msgC x.1 x.2.1 x.2.2) → xs = (l.zip qs).flatMap fun x => msgC x.1 x.2.1 x.2.2)
    (ho : w'.ownsRow base 40 23 v' (l.length + 1) (xs ++ msgC m q cq)) (hf : Fm (fun i => s.ownBlock = some i) w w') (hb : BytesAt w q m.bytes) (hqN : ∀ ad, q = some ad → m.bytes ≠ [] → ad.block < N) : RowMsgs w' base N v' (l ++ [m]) := by
  obtain ⟨qs, hql, hown, hq⟩ := h
  rw [hxs qs hql hown] at ho
  have hsN : ∀ i, s.ownBlock = some i → N ≤ i := fun i hi => by have := (own_block hown hi).1; omega
  have hk : ∀ {q : Option Addr} {ys : List Int}, (∀ ad, q = some ad → ys ≠ [] → ad.block < N) → BytesAt w q ys → BytesAt w' q ys := fun hqb h => h.keepN hf fun ad e hne hs => by have := hsN _ hs; have := hqb ad e hne; omega
  refine ⟨qs ++ [(q, cq)], by simp [hql], ?_, fun j m' q' hj hq' => ?_⟩
  · rw [List.zip_append hql.symm, List.flatMap_append, List.length_append]
    have : [(m, (q, cq))].flatMap (fun x : Msg × Option Addr × Nat => msgC x.1 x.2.1 x.2.2) = msgC m q cq := by simp
    show w'.ownsRow _ _ _ _ _ (_ ++ [(m, (q, cq))].flatMap _)
    rw [this]
    exact ho
  · by_cases hjl : j < l.length
    · rw [List.getElem?_append_left hjl] at hj
      rw [List.getElem?_append_left (by omega)] at hq'
      obtain ⟨h1, h2⟩ := hq j m' q' hj hq'
      exact ⟨hk h2 h1, h2⟩
    · have hj1 : j = l.length := by
        have := (List.getElem?_eq_some_iff.1 hj).1
        rw [List.length_append] at this; simp only [List.length_cons, List.length_nil] at this; omega
      subst hj1
      rw [List.getElem?_append_right (by omega), Nat.sub_self] at hj
      rw [List.getElem?_append_right (by omega), hql, Nat.sub_self] at hq'
      cases hj; cases hq'
      exact ⟨hk hqN hb, hqN⟩
theorem own_xs {base e size n : Nat} {s : Value} {xs ys : List Value} (h : w.ownsRow base e size s n xs) (h' : w.ownsRow base e size s n ys) : xs = ys := by
  rcases h.2 with ⟨rfl, rfl⟩ | ⟨g, cap, cur, rfl, _, hb, _, _, _, ht⟩
  · have h1 := h.1; have h2 := h'.1
    simp at h1 h2
    rw [h1, h2]
  · rcases h'.2 with ⟨h0, _⟩ | ⟨g', cap', cur', hv, _, hb', _, _, _, ht'⟩
    · cases h0
    · cases hv
      rw [hb] at hb'; cases hb'
      rw [← ht, ← ht']
/-- A message in a block of its own, appended to a row of messages. -/
theorem app_one {base N g : Nat} {s : Value} {l : List Msg} {m : Msg} {q : Option Addr} {cq : Nat} {KK : Value → World → Prop} (h : RowMsgs w base N s l) (hN : N ≤ base) (hb : base ≤ w.heap.size) (hg : w.heap[g]? = some (.cells (msgC m q cq).toArray 40 (0, 0))) (hl : l.length ≤ 1000)
    (hby : BytesAt w q m.bytes) (hqN : ∀ ad, q = some ad → m.bytes ≠ [] → ad.block < N) (kk : ∀ v' w', RowMsgs w' base N v' (l ++ [m]) → Fm (fun i => s.ownBlock = some i) w w' → KK v' w') :
    runs Try.prog (Builtin.append_ #[22, 22] 22 #[s, .slice (some ⟨g, 0, none⟩) 1 1]) w KK := by
  have h' := h
  obtain ⟨qs, hql, hown, hq⟩ := h'
  refine appendS_at (news := msgC m q cq) (by rw [row22]) row40 rfl (by omega) hown rfl (fun i v hv => ?_) msgC_one hb (by simp only [maxLen]; omega) (by omega) fun v' w' hv' hf' => ?_
  · rw [addr_add, Nat.zero_add]
    exact cellOf hg (by simpa using hv)
  · exact kk v' w' (h.snoc hN (fun qs' _ ho => own_xs hown ho) hv' hf' hby hqN) hf'
theorem MsgsAt.take {N : Nat} {p : Option Addr} {ms : List Msg} (h : MsgsAt w N p ms) (k c : Nat) : MsgsAt w N (if c = 0 then p else p.map (·.add 0)) (ms.take k) := by
  intro j m hj
  rw [List.getElem?_take] at hj
  split at hj
  · obtain ⟨ad, q, cq, rfl, hb, hc, h1, h2⟩ := h j m hj
    split
    · exact ⟨ad, q, cq, rfl, hb, hc, h1, h2⟩
    · exact ⟨ad.add 0, q, cq, rfl, by rw [add_block]; exact hb, by rw [add0]; exact hc, h1, h2⟩
  · cases hj
end Go.Proofs.Ytfekkdmnboccfaa
