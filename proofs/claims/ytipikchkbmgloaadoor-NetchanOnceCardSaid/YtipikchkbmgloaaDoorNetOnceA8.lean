/- What NetOnce needs, part 8 of 12: ChP ChK E5 Duo DgB PlW Lay2 Hld E6 LawW PlC E7 LawC PlO.  Conditions: as each part says. -/
import Derived.Test.YtipikchkbmgloaaDoorNetOnceA7
namespace Go.Proofs.YtipikchkbmgloaaDoor
set_option linter.unusedSimpArgs false
set_option linter.unusedVariables false
open Go Go.RowKit VC
variable {w : World}
theorem RowMsgs.base {base b N : Nat} {sv : Value} {ms : List Msg} (h : RowMsgs w base N sv ms) (hb : b ≤ base) : RowMsgs w b N sv ms := by
  obtain ⟨qs, h1, h2, h3⟩ := h
  exact ⟨qs, h1, own_base h2 hb, h3⟩
theorem clone38_c {ms : List Msg} {p : Option Addr} {c N : Nat} (hm : MsgsAt w N p ms) (hN : N ≤ w.heap.size) (hl : ms.length ≤ 1000) :
    callV Tryd.prog 38 [.slice p ms.length c] w fun v w' => RowMsgs w' w.heap.size N v ms ∧ Fm none' w w' := by
  refine vc38 p ms.length c w _ ?_
  cases p with
  | none =>
    have : ms = [] := by
      cases ms with
      | nil => rfl
      | cons m l => obtain ⟨_, _, _, e, _⟩ := hm 0 m rfl; cases e
    subst this
    exact ⟨RowMsgs.nil _ _ _, Fm.refl _ _⟩
  | some ad =>
    change runs _ _ _ _
    refine build_noneS (by rw [row24]) row53 fun w1 hs hlt1 hf1 => ?_
    change runs _ _ _ _
    refine app_rows (base := w.heap.size) rfl hs (hm.keep hf1 fun _ _ => id) hN hf1.size hl fun v w2 hr hf2 => ?_
    obtain ⟨o, d, rfl⟩ := rowSl hr
    refine ⟨hr, hf1.trans' hf2 fun i hi e => ?_⟩
    have := (own_block hs e).1
    omega
section
variable {F : Nat → Prop} {A : Nat} {bl : Nat → Nat} {mk : Nat → Bool} {c : Ch} {wv sv : Value}
theorem HasAt.up {F' : Nat → Prop} {n : Nat} {ids : List Nat} {h : Value} (H : HasAt w F wv bl n ids h) (hF : ∀ i, F i → F' i) : HasAt w F' wv bl n ids h := ⟨H.own, fun i hi => ⟨hF i (H.inF i hi).1, (H.inF i hi).2⟩, H.lt⟩
theorem Core.up {F' : Nat → Prop} (h : Core w F A bl mk c wv sv) (hF : ∀ i, F i → F' i) (hl : ∀ i, F' i → i < w.heap.size) : Core w F' A bl mk c wv sv :=
  { h with fA := hF A h.fA, lt := hl, fw := fun i hi => hF i (h.fw i hi), ids := fun i hi => ⟨hF _ (h.ids i hi).1, (h.ids i hi).2⟩, msgs := fun x hx => (h.msgs x hx).imp id (And.imp id fun ⟨q, cq, h3, h4⟩ => ⟨q, cq, h3, h4.mono hF⟩) }
theorem SentAt.up {F' : Nat → Prop} {n : Nat} {es : List Ent} {hs : List Value} (h : SentAt w F bl n es wv sv hs) (hF : ∀ i, F i → F' i) : SentAt w F' bl n es wv sv hs :=
  { h with fs := fun i hi => hF i (h.fs i hi), has := fun j e x he hh => (h.has j e x he hh).up hF }
theorem ptrs_congr {bl' : Nat → Nat} {ids : List Nat} (h : ∀ i ∈ ids, bl' i = bl i) : ptrs bl' ids = ptrs bl ids := by
  unfold ptrs
  induction ids with
  | nil => rfl
  | cons i ids ih =>
    rw [List.flatMap_cons, List.flatMap_cons, ih fun j hj => h j (List.mem_cons_of_mem _ hj)]
    simp only [ptr1, adOf, h i List.mem_cons_self]
theorem wtC_len (m : Msg) (q : Option Addr) (cq : Nat) (b : Bool) : (wtC m q cq b).length = 24 := rfl
set_option maxRecDepth 20000 in
set_option maxHeartbeats 2000000 in
theorem push19_c {m : Msg} {p : Option Addr} {cp : Nat} (h : ChAt w F A c) (hm : Mok m) (hy : BytesAt w p m.bytes) (hp : ∀ ad, p = some ad → m.bytes ≠ [] → ad.block < w.heap.size) (hl : m.bytes.length ≤ 1000000) :
    callV Tryd.prog 19 [.pointer (some ⟨A, 0, none⟩), .agg (msgC m p cp).toArray] w fun v w' => v = .int .i64 (pushC c m).1 ∧ ChAt w' (FNew F w w') A (pushC c m).2 ∧ Fm F w w' := by
  obtain ⟨bl, mk, wv, sv, hs, hc, hS, hmk⟩ := h
  unfold msgC
  apply vc19
  refine allocC_of fun w1 hb1 hs1 hf1 => ?_
  change w1.heap[w.heap.size]? = some (.cells (msgC m p cp).toArray 53 (0, 0)) at hb1
  refine rd_of (v := msgC m p cp) (cells_all hb1 rfl) ?_
  have hupF : ∀ w' : World, ∀ i, F i → FNew F w w' i := fun _ i h => .inl h
  have hfn : ∀ w' : World, w.heap.size ≤ w'.heap.size → ∀ i, FNew F w w' i → i < w'.heap.size := fun w' hle i hi => hi.elim (fun h => Nat.lt_of_lt_of_le (hc.lt i h) hle) (·.2)
  have stay : ∀ w', Fm none' w w' → ChAt w' (FNew F w w') A c := fun w' hf =>
    ⟨bl, mk, wv, sv, hs, (hc.keep hf fun _ _ _ _ _ _ => id).up (hupF w') (hfn w' hf.size), (hS.keep hf fun _ _ _ _ _ _ => id).up (hupF w'), hmk⟩
  refine (right16_c hm (hy.keep hf1 fun _ _ => id) (fun ad e hne => Nat.lt_of_lt_of_le (hp ad e hne) hf1.size) (by omega)).mono ?_
  rintro _ w4 ⟨rfl, hf4⟩
  simp only [vcs, eqV, nilV, Option.map_some, Nat.mul_one, implies_true, true_and, and_true, and_self]
  have hF4 := hf1.trans hf4
  cases hr : rightM m with
  | false =>
    simp only [Bool.not_false, vcs, eqV, nilV, Option.map_some, Nat.mul_one, implies_true, true_and, and_true, and_self]
    have e : pushC c m = (1, c) := by unfold pushC; rw [if_pos hr]
    rw [e]
    exact ⟨rfl, stay w4 hF4, hF4.none⟩
  | true =>
    simp only [Bool.not_true, vcs, eqV, nilV, Option.map_some, Nat.mul_one, implies_true, true_and, and_true, and_self]
    have hc4 : Core w4 F A bl mk c wv sv := hc.keep hF4 fun _ _ _ _ _ _ => id
    have k1 : w4.cell? ⟨A, 1, none⟩ = some wv := cellOf hc4.box rfl
    obtain ⟨pw, cw, hwv⟩ := hc.wvSl
    have hb4 := hf4.keep hb1 id
    have k2 : w4.cell? ⟨w.heap.size, 22, none⟩ = some (.slice p m.bytes.length cp) := cellOf hb4 rfl
    simp only [addr_add, Nat.zero_add, k1, hwv, k2, vcs, eqV, nilV, Option.map_some, Nat.mul_one, implies_true, true_and, and_true, and_self]
    refine br_dec (fun hfull => ?_) (fun hfull => ?_)
    · have e : pushC c m = (5, c) := by unfold pushC; rw [if_neg (by rw [hr]; simp), if_pos (by omega)]
      rw [e]
      exact ⟨rfl, stay w4 hF4, hF4.none⟩
    have e : pushC c m = (0, { c with wait := c.wait ++ [(c.pushed, m)], pushed := c.pushed + 1 }) := by unfold pushC; rw [if_neg (by rw [hr]; simp), if_neg (by omega)]
    rw [e]
    have hok : Rok m := rok_of hm (by omega) hr
    refine (clone46_c (c := cp) (hy.keep hF4 fun _ _ => id) (Nat.le_refl _) (by omega)).mono ?_
    rintro vb w15 ⟨hob, hbn, hf15⟩
    obtain ⟨qb, cb, rfl, -⟩ := own_read hob
    simp only [vcs, eqV, nilV, Option.map_some, Nat.mul_one, implies_true, true_and, and_true, and_self]
    have hF15 := hF4.trans hf15
    have hb15 := hf15.keep hb4 id
    refine stC_one hb15 (by simp [msgC]) rfl fun w19 hb19 hf19 => ?_
    have hb19' : w19.heap[w.heap.size]? = some (.cells (msgC m qb cb).toArray 53 (0, 0)) := hb19
    have hF19 : Fm none' w w19 := hF15.trans' hf19 fun i hi e => by omega
    obtain ⟨N, hN⟩ : ∃ N, N = w.heap.size := ⟨_, rfl⟩
    rw [← hN] at hb19' ⊢
    have hc19 : Core w19.drew F A bl mk c wv sv := hc.keep (hF19.trans (Fm.drew w19)) fun _ _ _ _ _ _ => id
    have kA : w19.drew.cell? ⟨A, 1, none⟩ = some (.slice pw c.wait.length cw) := by rw [← hwv]; exact cellOf (w := w19.drew) hc19.box rfl
    have kM : cellsAt w19.drew ⟨N, 0, none⟩ 23 = some (msgC m qb cb) := cells_all (w := w19.drew) hb19' rfl
    have hAN : N ≠ A := by have := hc.lt A hc.fA; omega
    refine ⟨fun w' => Fm (fun i => wv.ownBlock = some i) w19.drew w', Fm.refl _ _, ?_⟩
    have hwA : ¬ wv.ownBlock = some A := fun hw => by
      obtain ⟨_, cur, hcur⟩ := own_block hc19.own hw
      have := hc19.box
      unfold BoxA at this
      rw [hcur] at this; cases this
    have hwN : ¬ wv.ownBlock = some N := fun hw => by have := hc.lt N (hc.fw N hw); omega
    refine rd_of kA ⟨fun w' hf => rd_of (hf.cell kA hwA) rfl, ?_⟩
    simp only [vcs, eqV, nilV, Option.map_some, Nat.mul_one, implies_true, true_and, and_true, and_self]
    refine rd_of kM ⟨fun w' hf => rd_of (hf.cells hwN kM) rfl, ?_⟩
    refine rd_of (v := ()) rfl ⟨fun w' hf => rd_of (v := ()) rfl trivial, ?_⟩
    refine rd_of (v := ()) rfl ?_
    refine allocC_of fun w43 hb43 hs43 hf43 => ?_
    obtain ⟨K, hK⟩ : ∃ K, K = w19.drew.heap.size := ⟨_, rfl⟩
    rw [← hK] at hb43 ⊢
    have hb43' : w43.heap[K]? = some (.cells (wtC m qb cb false).toArray 100 (0, 0)) := hb43
    refine ⟨hf43.none, ?_⟩
    refine build_1 (by rw [row74]) row98 rfl rfl fun w45 hb45 hs45 hf45 => ?_
    simp only [vcs, eqV, nilV, Option.map_some, Nat.mul_one, implies_true, true_and, and_true, and_self]
    refine ⟨(hf43.trans hf45).none, ?_⟩
    have hown45 : w45.ownsRow 0 98 1 (.slice pw c.wait.length cw) c.wait.length (ptrs bl (c.wait.map (·.1))) := by
      rw [← hwv]
      exact (hf43.trans hf45).owns hc19.own fun _ _ => id
    have hmany := hc.many
    refine append_r (ys := [.pointer (some ⟨K, 0, none⟩)]) (by rw [row74]) row98 rfl hown45 rfl (by simp [Value.oneCell']) (fun j y hj => ?_) (Nat.zero_le _) (by simp only [maxLen]; omega) (by omega) fun p' c' w50 ho50 hf50 hblk50 => ?_
    · match j, hj with
      | 0, hj =>
        simp at hj; subst hj
        exact ⟨_, rfl, by rw [addr_add]; exact cellOf hb45 rfl⟩
    simp only [vcs, eqV, nilV, Option.map_some, Nat.mul_one, implies_true, true_and, and_true, and_self]
    rw [← hwv] at hf50 hblk50
    have hF50 : Fm (fun i => wv.ownBlock = some i) w19.drew w50 := (hf43.trans hf45).none.trans hf50
    refine ⟨hF50, ?_⟩
    have hbox50 := hF50.keep hc19.box hwA
    refine stC_one hbox50 (by simp) rfl fun w54 hb54 hf54 => ?_
    have hblkne : ∀ i C t, w50.heap[i]? = some (.cells C t (0, 0)) → t ≠ 79 → ¬ i = A := by
      rintro i C t hi ht rfl
      rw [hbox50] at hi; cases hi; exact ht rfl
    obtain ⟨F', hF'⟩ : ∃ F', F' = FNew F w w54 := ⟨_, rfl⟩
    have hs43' : w43.heap.size = K + 1 := by rw [hK]; exact hs43
    have hKw : w.heap.size ≤ K := by rw [hK]; exact (hF19.trans (Fm.drew w19)).size
    have hs45' : w45.heap.size = K + 2 := by rw [hs45, hs43']
    have h50 := hf50.size
    have h54 := hf54.size
    have hwB : ∀ i, wv.ownBlock = some i → i < w.heap.size := fun i hi => hc.lt i (hc.fw i hi)
    have hFall : Fm F w w54 := (((hF19.trans (Fm.drew w19)).none.trans (hF50.mono fun i _ hi => hc.fw i hi)).trans (hf54.mono fun i _ e => e ▸ hc.fA))
    have hsub : ∀ i, F i → F' i := fun i hi => by rw [hF']; exact .inl hi
    have hnew : ∀ i, w.heap.size ≤ i → i < w54.heap.size → F' i := fun i h1 h2 => by rw [hF']; exact .inr ⟨h1, h2⟩
    have hblK : ∀ i, i < c.pushed → bl i < w.heap.size := fun i hi => hc.lt _ (hc.ids i hi).1
    -- the new number's block
    obtain ⟨bl', hbl'⟩ : ∃ bl' : Nat → Nat, bl' = fun i => if i = c.pushed then K else bl i := ⟨_, rfl⟩
    have hblo : ∀ i, i < c.pushed → bl' i = bl i := fun i hi => by rw [hbl']; exact if_neg (by omega)
    have hbln : bl' c.pushed = K := by rw [hbl']; exact if_pos rfl
    obtain ⟨mk', hmk'⟩ : ∃ mk' : Nat → Bool, mk' = fun i => if i = c.pushed then false else mk i := ⟨_, rfl⟩
    have hmko : ∀ i, i < c.pushed → mk' i = mk i := fun i hi => by rw [hmk']; exact if_neg (by omega)
    have hmkn : mk' c.pushed = false := by rw [hmk']; exact if_pos rfl
    have hpo : ∀ ids : List Nat, (∀ i ∈ ids, i < c.pushed) → ptrs bl' ids = ptrs bl ids := fun ids h => ptrs_congr fun i hi => hblo i (h i hi)
    have hwlt : ∀ i ∈ c.wait.map (·.1), i < c.pushed := fun i hi => by
      obtain ⟨x, hx, rfl⟩ := List.mem_map.1 hi
      exact (hc.msgs x hx).1
    have keepF : ∀ (i : Nat) (C : Array Value) (t : TypeId), w19.drew.heap[i]? = some (Obj.cells C t (0, 0)) → t ≠ 79 → t ≠ 98 → w54.heap[i]? = some (Obj.cells C t (0, 0)) := fun i C t hi h1 h2 => by
      have hn : ¬ wv.ownBlock = some i := fun hw => by
        obtain ⟨_, cur, hcur⟩ := own_block hc19.own hw
        rw [hi] at hcur; cases hcur; exact h2 rfl
      exact hf54.keep (hF50.keep hi hn) (hblkne i C t (hF50.keep hi hn) h1)
    have hK54 : w54.heap[K]? = some (.cells (wtC m qb cb false).toArray 100 (0, 0)) := by
      have hk50 : w50.heap[K]? = some (.cells (wtC m qb cb false).toArray 100 (0, 0)) := hf50.keep (hf45.keep hb43' id) fun hw => by have := hwB K hw; omega
      exact hf54.keep hk50 (hblkne _ _ _ hk50 (by decide))
    have hvb : (Value.slice p' (c.wait.length + 1) c').ownBlock = wv.ownBlock ∨ ∃ i, (Value.slice p' (c.wait.length + 1) c').ownBlock = some i ∧ w.heap.size ≤ i ∧ i < w54.heap.size := by
      rcases hblk50 with h | h
      · exact .inl h
      · have := own_block ho50 h
        obtain ⟨_, cur, hcur⟩ := this
        exact .inr ⟨_, h, by omega, by have := lt_of_blk hcur; omega⟩
    rw [← hF']
    refine ⟨⟨bl', mk', .slice p' (c.wait.length + 1) c', sv, hs, ⟨hb54, hsub A hc.fA, fun i hi => hfn w54 hFall.size i (hF' ▸ hi), hc.wok, hc.next, hc.heard, hc.rtt, ?_, ?_, ?_, ?_, ?_, ?_⟩, ?_, ?_⟩, hFall⟩
    · have hf : w54.ownsRow 0 98 1 (.slice p' (c.wait.length + 1) c') (c.wait.length + 1) (ptrs bl (c.wait.map (·.1)) ++ [.pointer (some ⟨K, 0, none⟩)]) := by
        refine hf54.owns ho50 fun i hi => ?_
        obtain ⟨_, cur, hcur⟩ := own_block ho50 hi
        exact hblkne i _ _ hcur (by decide)
      have e1 : ptrs bl' ((c.wait ++ [(c.pushed, m)]).map (·.1)) = ptrs bl (c.wait.map (·.1)) ++ [.pointer (some ⟨K, 0, none⟩)] := by
        rw [List.map_append]
        have : ptrs bl' (c.wait.map (·.1) ++ [c.pushed]) = ptrs bl' (c.wait.map (·.1)) ++ ptrs bl' [c.pushed] := by unfold ptrs; rw [List.flatMap_append]
        show ptrs bl' (c.wait.map (·.1) ++ [c.pushed]) = _
        rw [this, hpo _ hwlt]
        congr 1
        simp [ptrs, ptr1, adOf, hbln]
      show w54.ownsRow 0 98 1 _ (c.wait ++ [(c.pushed, m)]).length (ptrs bl' ((c.wait ++ [(c.pushed, m)]).map (·.1)))
      rw [e1, List.length_append]
      exact hf
    · intro i hi
      rw [hF']
      rcases hvb with h | ⟨j, h, h1, h2⟩
      · rw [h] at hi; exact .inl (hc.fw i hi)
      · rw [h] at hi; cases hi; exact .inr ⟨h1, h2⟩
    · intro i hi
      by_cases hic : i = c.pushed
      · subst hic
        rw [hbln, hmkn]
        exact ⟨hnew K hKw (by omega), msgC m qb cb, rfl, hK54⟩
      · have hi' : i < c.pushed := by have : i < c.pushed + 1 := hi; omega
        obtain ⟨h1, cs, h2, h3⟩ := hc19.ids i hi'
        rw [hblo i hi', hmko i hi']
        exact ⟨hsub _ h1, cs, h2, keepF _ _ _ h3 (by decide) (by decide)⟩
    · intro i j hi hj hij
      have hi' : i < c.pushed + 1 := hi
      have hj' : j < c.pushed + 1 := hj
      by_cases h1 : i = c.pushed
      · by_cases h2 : j = c.pushed
        · omega
        · rw [h1, hbln, hblo j (by omega)] at hij
          have := hblK j (by omega); omega
      · by_cases h2 : j = c.pushed
        · rw [h2, hbln, hblo i (by omega)] at hij
          have := hblK i (by omega); omega
        · rw [hblo i (by omega), hblo j (by omega)] at hij
          exact hc.inj i j (by omega) (by omega) hij
    · intro x hx
      rcases List.mem_append.1 hx with hx | hx
      · obtain ⟨h1, h2, q, cq, h3, h4⟩ := hc19.msgs x hx
        rw [hblo _ h1, hmko _ h1]
        refine ⟨Nat.lt_succ_of_lt h1, h2, q, cq, keepF _ _ _ h3 (by decide) (by decide), ?_⟩
        have h5 : OwnB w54 F q cq x.2.bytes := h4.keep (S := fun i => wv.ownBlock = some i ∨ i = A) ((hF50.mono fun i _ e => .inl e).trans (hf54.mono fun i _ e => .inr e)) (by
          rintro i C hi _ (hw | rfl)
          · obtain ⟨_, cur, hcur⟩ := own_block hc19.own hw
            rw [hi] at hcur; cases hcur
          · have := hc19.box
            unfold BoxA at this
            rw [hi] at this; cases this)
        exact h5.mono hsub
      · obtain rfl : x = (c.pushed, m) := by simpa using hx
        simp only [hbln, hmkn]
        refine ⟨Nat.lt_succ_self _, hok, qb, cb, hK54, ?_, ?_⟩
        · have o19 : w19.drew.ownsRow 0 5 1 (.slice qb m.bytes.length cb) m.bytes.length (m.bytes.map (Value.int .u8)) := own_base ((hf19.owns hob fun i hi e => by
            have := hbn i hi
            obtain ⟨_, cur, hcur⟩ := own_block hob hi
            rw [e, hb15] at hcur; cases hcur)) (Nat.zero_le _)
          have o50 := hF50.owns o19 fun i hi hw => by
            obtain ⟨_, cur, hcur⟩ := own_block hc19.own hw
            obtain ⟨_, cur2, hcur2⟩ := own_block o19 hi
            rw [hcur] at hcur2; cases hcur2
          refine hf54.owns o50 fun i hi => ?_
          obtain ⟨_, cur, hcur⟩ := own_block o50 hi
          exact hblkne i _ _ hcur (by decide)
        · intro i hi
          have h1 := hbn i hi
          obtain ⟨_, cur, hcur⟩ := own_block hob hi
          have h2 := lt_of_blk hcur
          have h3 := hF4.size
          have h5 := hf19.size
          have h6 : K = w19.heap.size := hK
          exact hnew i (by omega) (by omega)
    · show (c.wait ++ [(c.pushed, m)]).length ≤ 64
      rw [List.length_append]
      have : c.wait.length ≠ 64 := by omega
      simp; omega
    · have hS19 : SentAt w19.drew F bl c.pushed c.sent wv sv hs := hS.keep (hF19.trans (Fm.drew w19)) fun _ _ _ _ _ _ => id
      have hS50 := hS19.keep hF50 fun i C t hi _ ht => by
        rcases ht with rfl | ⟨rfl, h⟩
        · intro hw
          obtain ⟨_, cur, hcur⟩ := own_block hc19.own hw
          rw [hi] at hcur; cases hcur
        · exact h
      have hS54 := hS50.keep hf54 fun i C t hi _ ht => hblkne i C t hi (by rcases ht with rfl | ⟨rfl, _⟩ <;> decide)
      refine ⟨hS54.len, hS54.own, fun i hi => hsub i (hS54.fs i hi), fun j e hv he hh => ?_, hS54.rng⟩
      have hh' := hS54.has j e hv he hh
      refine ⟨by rw [hpo _ hh'.lt]; exact hh'.own, fun i hi => ⟨hsub i (hh'.inF i hi).1, ?_⟩, fun i hi => Nat.lt_succ_of_lt (hh'.lt i hi)⟩
      rcases hvb with h | ⟨k, h, h1, h2⟩
      · rw [h]; exact (hh'.inF i hi).2
      · rw [h]
        intro e
        cases e
        have := hc.lt i (hh'.inF i hi).1
        omega
    · intro x hx
      rcases List.mem_append.1 hx with hx | hx
      · rw [hmko _ (hc.msgs x hx).1]; exact hmk x hx
      · obtain rfl : x = (c.pushed, m) := by simpa using hx
        exact hmkn
end
end Go.Proofs.YtipikchkbmgloaaDoor
namespace Go.Proofs.YtipikchkbmgloaaDoor
set_option linter.unusedSimpArgs false
set_option linter.unusedVariables false
open Go Go.RowKit VC
variable {w : World}
def dgCs (d : Dg) (p : Option Addr) (c : Nat) : Array Value := #[.int .u16 d.seq, .bool d.any, .int .u16 d.last, .int .u32 d.bits, .slice p d.list.length c]
structure DgAt (W : World) (B D : Nat) (d : Dg) (p : Option Addr) (c : Nat) : Prop where
  blk : W.heap[D]? = some (.cells (dgCs d p c) 32 (0, 0))
  rows : RowMsgs W B B (.slice p d.list.length c) d.list
theorem DgAt.keep {W W' : World} {B D : Nat} {d : Dg} {p : Option Addr} {c : Nat} (h : DgAt W B D d p c) (f : Fm none' W W') : DgAt W' B D d p c := ⟨f.keep h.blk id, h.rows.keep f fun _ _ => id⟩
theorem fitN_split (d : Dg) : ∀ (ms : List Msg) (j : Nat), fitN d ms = j + fitN { d with list := d.list ++ ms.take j } (ms.drop j) → ∀ m, ms[j]? = some m → (encD { d with list := d.list ++ ms.take j ++ [m] }).2 = 0 →
    fitN d ms = (j + 1) + fitN { d with list := d.list ++ ms.take (j + 1) } (ms.drop (j + 1)) := by
  intro ms j h m hm hok
  have hj : j < ms.length := (List.getElem?_eq_some_iff.1 hm).1
  have e1 : ms.drop j = m :: ms.drop (j + 1) := by
    rw [List.drop_eq_getElem_cons hj]
    congr 1
    exact (List.getElem?_eq_some_iff.1 hm).2
  have e2 : ms.take (j + 1) = ms.take j ++ [m] := by rw [List.take_add_one, hm]; rfl
  rw [h, e1, fitN, if_pos hok, e2, ← List.append_assoc]
  show j + (fitN { d with list := d.list ++ ms.take j ++ [m] } (ms.drop (j + 1)) + 1) = _
  omega
theorem fitN_stop (d : Dg) : ∀ (ms : List Msg) (j : Nat), fitN d ms = j + fitN { d with list := d.list ++ ms.take j } (ms.drop j) → ∀ m, ms[j]? = some m → (encD { d with list := d.list ++ ms.take j ++ [m] }).2 ≠ 0 → fitN d ms = j := by
  intro ms j h m hm hok
  have hj : j < ms.length := (List.getElem?_eq_some_iff.1 hm).1
  have e1 : ms.drop j = m :: ms.drop (j + 1) := by
    rw [List.drop_eq_getElem_cons hj]
    congr 1
    exact (List.getElem?_eq_some_iff.1 hm).2
  rw [h, e1, fitN, if_neg hok]
  rfl
theorem fitN_le (d : Dg) : ∀ (ms : List Msg), fitN d ms ≤ ms.length := by
  intro ms
  induction ms generalizing d with
  | nil => exact Nat.le_refl _
  | cons m ms ih =>
    unfold fitN
    split
    · have := ih { d with list := d.list ++ [m] }
      rw [List.length_cons]; omega
    · omega
section
variable {F : Nat → Prop} {A : Nat} {bl : Nat → Nat} {mk : Nat → Bool} {c : Ch} {wv sv : Value}
set_option maxRecDepth 20000 in
set_option maxHeartbeats 4000000 in
theorem pack17_c {l : List Msg} {p : Option Addr} {cp now N : Nat} (hH : Halves w) (h : ChAt w F A c) (hm : MsgsAt w N p l) (hN : N ≤ w.heap.size) (hok : Msok l) (hll : l.length ≤ 900) (hnow : now < 4294967296) (hsl : c.sent.length < 64) :
    callV Tryd.prog 17 [.pointer (some ⟨A, 0, none⟩), .slice p l.length cp, .int .u32 now] w fun v w' =>
      ∃ q e F', v = .tuple #[.slice q (packC c l now).1.1.length e, .int .i64 (packC c l now).1.2] ∧
        w'.ownsRow w.heap.size 5 1 (.slice q (packC c l now).1.1.length e) (packC c l now).1.1.length ((packC c l now).1.1.map (Value.int .u8)) ∧ (∀ i, (Value.slice q (packC c l now).1.1.length e).ownBlock = some i → ¬ F' i) ∧
        ChAt w' F' A (packC c l now).2 ∧ (∀ i, F' i → F i ∨ w.heap.size ≤ i) ∧ Fm F w w' := by
  obtain ⟨bl, mk, wv, sv, hs, hc, hS, hmk⟩ := h
  obtain ⟨d, hd⟩ : ∃ d, d = packDg c l := ⟨_, rfl⟩
  have hdok : ∀ l', Dok { d with list := l' } := by
    intro l'
    have hw := hc.wok
    have hn := hc.next
    rw [hd]
    refine ⟨hn, ?_, ?_⟩
    · show (if c.win.any = true then c.win.last else 0) < 65536
      split
      · exact hw.last
      · omega
    · show (if c.win.any = true then c.win.bits else 0) < 4294967296
      split
      · exact hw.bits
      · omega
  have hdl : d.list = l := by rw [hd]; rfl
  have hB : ∀ i, F i → i < w.heap.size := hc.lt
  refine vc17 ⟨A, 0, none⟩ p l.length cp now w _ ?_
  have hcd : Core w.drew F A bl mk c wv sv := hc.keep (Fm.drew w) fun _ _ _ _ _ _ => id
  have hboxk : ∀ W, Fm none' w.drew W → BoxA W A (.int .u16 c.next) wv sv c.win (.int .i64 c.rtt) (.bool c.timed) (.int .u32 c.heard) := fun W hf => hf.keep hcd.box id
  refine ⟨fun u W => ∃ D q e, u 8 = .pointer (some ⟨D, 0, none⟩) ∧ w.heap.size ≤ D ∧ W.heap[D]? = some (.cells #[.int .u16 c.next, .bool c.win.any, .int .u16 0, .int .u32 0, .slice q l.length e] 32 (0, 0)) ∧ RowMsgs W w.heap.size w.heap.size (.slice q l.length e) l ∧ Fm none' w.drew W, ?_, ?_⟩
  · -- the head
    refine ⟨fun W => Fm none' w.drew W, Fm.refl _ _, ?_⟩
    have k0 : ∀ W, Fm none' w.drew W → W.cell? ⟨A, 0, none⟩ = some (.int .u16 c.next) := fun W hf => cellOf (hboxk W hf) rfl
    simp only [vcs, eqV, nilV, Option.map_some, Nat.mul_one, implies_true, true_and, and_true, and_self]
    refine rd_of (v := .int .u16 c.next) (k0 w.drew (Fm.refl _ _)) ⟨fun W hf => rd_of (v := .int .u16 c.next) (k0 W hf) rfl, ?_⟩
    simp only [vcs, eqV, nilV, Option.map_some, Nat.mul_one, implies_true, true_and, and_true, and_self]
    simp only [addr_add, Nat.zero_add]
    have any : ∀ W, Fm none' w.drew W → callV Tryd.prog 37 [.pointer (some ⟨A, 3, none⟩)] W fun v w' => v = .bool c.win.any ∧ w' = W := fun W hf => any37_c (hboxk W hf).win
    have clone : ∀ W, Fm none' w.drew W → callV Tryd.prog 38 [.slice p l.length cp] W fun v w' => ∃ q e, v = .slice q l.length e ∧ RowMsgs w' w.heap.size w.heap.size (.slice q l.length e) l ∧ Fm none' W w' := fun W hf => by
      have hsz : w.heap.size ≤ W.heap.size := hf.size
      refine (clone38_c (c := cp) (hm.keep ((Fm.drew w).trans hf) fun _ _ => id) (Nat.le_trans hN hsz) (by omega)).mono ?_
      rintro v w' ⟨hr, hf'⟩
      obtain ⟨q, e, rfl⟩ := rowSl hr
      obtain ⟨qs, a1, a2, a3⟩ := hr.base hsz
      exact ⟨q, e, rfl, ⟨qs, a1, a2, fun j m q' hj hq => ⟨(a3 j m q' hj hq).1, fun ad e hne => Nat.lt_of_lt_of_le ((a3 j m q' hj hq).2 ad e hne) hN⟩⟩, hf'⟩
    have fin : ∀ (D : Nat) (W : World) (q : Option Addr) (e : Nat), w.heap.size ≤ D → W.heap[D]? = some (.cells #[.int .u16 0, .bool false, .int .u16 0, .int .u32 0, .slice none 0 0] 32 (0, 0)) → RowMsgs W w.heap.size w.heap.size (.slice q l.length e) l → Fm none' w.drew W →
        stC W ⟨D, 0, none⟩ [.int .u16 c.next, .bool c.win.any, .int .u16 0, .int .u32 0, .slice q l.length e] fun W' => ∃ D' q' e', alist [(8, .pointer (some ⟨D, 0, none⟩))] 8 = .pointer (some ⟨D', 0, none⟩) ∧ w.heap.size ≤ D' ∧ W'.heap[D']? = some (.cells #[.int .u16 c.next, .bool c.win.any, .int .u16 0, .int .u32 0, .slice q' l.length e'] 32 (0, 0)) ∧ RowMsgs W' w.heap.size w.heap.size (.slice q' l.length e') l ∧ Fm none' w.drew W' := by
      intro D W q e hD hb hr hf
      refine stC_all hb rfl (fun v hv => by simp at hv; rcases hv with rfl | rfl | rfl | rfl | rfl <;> rfl) fun W' hb' hf' => ?_
      refine ⟨D, q, e, rfl, hD, hb', ?_, hf.trans' hf' fun i hi e => by have h0 : w.drew.heap.size = w.heap.size := rfl; omega⟩
      obtain ⟨qs, a1, a2, a3⟩ := hr
      have ne : ∀ i C t, W.heap[i]? = some (.cells C t (0, 0)) → t ≠ 32 → ¬ i = D := by
        rintro i C t hi ht rfl
        rw [hb] at hi; cases hi; exact ht rfl
      refine ⟨qs, a1, hf'.owns a2 fun i hi => ?_, fun j m q' hj hq => ⟨(a3 j m q' hj hq).1.keepN hf' fun ad e hne hi => ?_, (a3 j m q' hj hq).2⟩⟩
      · obtain ⟨_, cur, hcur⟩ := own_block a2 hi
        exact ne i _ _ hcur (by decide)
      · have := (a3 j m q' hj hq).2 ad e hne
        omega
    have al : ∀ (W : World) (K : Nat → World → Prop), Fm none' w.drew W → (∀ D W1, W1.heap[D]? = some (.cells #[.int .u16 0, .bool false, .int .u16 0, .int .u32 0, .slice none 0 0] 32 (0, 0)) → w.heap.size ≤ D → Fm none' w.drew W1 → Fm none' W W1 → K D W1) →
        allocC W (.cells #[.int .u16 0, .bool false, .int .u16 0, .int .u32 0, .slice none 0 0] 32 (0, 0)) K := by
      intro W K hF k
      refine allocC_of fun W1 h1 _ h3 => ?_
      exact k _ W1 h1 hF.size (hF.trans h3) h3
    refine ⟨(any _ (Fm.refl _ _)).mono ?_, al _ _ (Fm.refl _ _) fun D W1 hb1 hD hF1 _ => ⟨hF1, (any _ hF1).mono ?_⟩⟩
    · rintro _ _ ⟨rfl, rfl⟩
      simp only [vcs, eqV, nilV, Option.map_some, Nat.mul_one, implies_true, true_and, and_true, and_self]
      refine ⟨Fm.refl _ _, (clone _ (Fm.refl _ _)).mono ?_, al _ _ (Fm.refl _ _) fun D W1 hb1 hD hF1 _ => ⟨hF1, (clone _ hF1).mono ?_⟩⟩
      · rintro _ W2 ⟨q, e, rfl, hr, hf⟩
        simp only [vcs, eqV, nilV, Option.map_some, Nat.mul_one, implies_true, true_and, and_true, and_self]
        refine ⟨hf, al _ _ hf fun D W1 hb1 hD hF1 hf1 => ⟨hF1, fin D W1 q e hD hb1 (hr.keep hf1 fun _ _ => id) hF1⟩⟩
      · rintro _ W2 ⟨q, e, rfl, hr, hf⟩
        simp only [vcs, eqV, nilV, Option.map_some, Nat.mul_one, implies_true, true_and, and_true, and_self]
        exact ⟨hF1.trans hf, fin D W2 q e hD (hf.keep hb1 id) hr (hF1.trans hf)⟩
    · rintro _ _ ⟨rfl, rfl⟩
      simp only [vcs, eqV, nilV, Option.map_some, Nat.mul_one, implies_true, true_and, and_true, and_self]
      refine ⟨hF1, (clone _ hF1).mono ?_⟩
      rintro _ W2 ⟨q, e, rfl, hr, hf⟩
      simp only [vcs, eqV, nilV, Option.map_some, Nat.mul_one, implies_true, true_and, and_true, and_self]
      exact ⟨hF1.trans hf, fin D W2 q e hD (hf.keep hb1 id) hr (hF1.trans hf)⟩
  rintro u w59 ⟨D, q0, e0, h8, hD, hb59, hr59, hf59⟩
  change u 8 = _ at h8
  have hF59 : Fm none' w w59 := (Fm.drew w).trans hf59
  have h0 : w.drew.heap.size = w.heap.size := rfl
  simp only [h8, vcs, eqV, nilV, Option.map_some, Nat.mul_one, implies_true, true_and, and_true, and_self]
  refine ⟨fun _ W => DgAt W w.heap.size D d q0 e0 ∧ Fm none' w W, ?_, ?_⟩
  · -- the acknowledgement
    have k1 : w59.cell? ((⟨D, 0, none⟩ : Addr).add 1) = some (.bool c.win.any) := by rw [addr_add]; exact cellOf hb59 rfl
    simp only [k1, vcs, eqV, nilV, Option.map_some, Nat.mul_one, implies_true, true_and, and_true, and_self]
    cases ha : c.win.any with
    | false =>
      simp only [vcs, eqV, nilV, Option.map_some, Nat.mul_one, implies_true, true_and, and_true, and_self]
      refine ⟨⟨?_, ?_⟩, hF59⟩
      · have e1 : dgCs d q0 e0 = #[.int .u16 c.next, .bool c.win.any, .int .u16 0, .int .u32 0, .slice q0 l.length e0] := by
          unfold dgCs
          rw [hd]
          simp only [packDg, ha]
          rfl
        rw [e1]; exact hb59
      · rw [hdl]; exact hr59
    | true =>
      simp only [vcs, eqV, nilV, Option.map_some, Nat.mul_one, implies_true, true_and, and_true, and_self]
      simp only [addr_add, Nat.zero_add]
      refine (ack39_c (hboxk _ hf59).win).mono ?_
      rintro _ _ ⟨rfl, rfl⟩
      simp only [vcs, eqV, nilV, Option.map_some, Nat.mul_one, implies_true, true_and, and_true, and_self, List.getElem?_toArray, List.getElem?_cons_zero, List.getElem?_cons_succ]
      refine stC_one (w := w59.drew) hb59 (by simp) rfl fun w74 hb74 hf74 => ?_
      refine stC_one hb74 (by simp) rfl fun w76 hb76 hf76 => ?_
      have hf : Fm (fun i => i = D) w59 w76 := ((Fm.drew w59).none.trans hf74).trans hf76
      refine ⟨⟨?_, ?_⟩, hF59.trans' hf fun i hi e => by omega⟩
      · have e1 : dgCs d q0 e0 = #[.int .u16 c.next, .bool c.win.any, .int .u16 c.win.last, .int .u32 c.win.bits, .slice q0 l.length e0] := by
          unfold dgCs
          rw [hd]
          simp only [packDg, ha]
          rfl
        rw [e1]; exact hb76
      · rw [hdl]
        obtain ⟨qs, a1, a2, a3⟩ := hr59
        refine ⟨qs, a1, hf.owns a2 fun i hi => ?_, fun j m q' hj hq => ⟨(a3 j m q' hj hq).1.keepN hf fun ad e hne hi => ?_, (a3 j m q' hj hq).2⟩⟩
        · obtain ⟨_, cur, hcur⟩ := own_block a2 hi
          rintro rfl
          rw [hb59] at hcur; cases hcur
        · have := (a3 j m q' hj hq).2 ad e hne
          omega
  rintro u2 w79 ⟨hdg79, hF79⟩
  refine rd_of (cells_all hdg79.blk rfl) ?_
  -- Encode of the datagram as it is built up
  have enc : ∀ (W : World) (l' : List Msg) (q : Option Addr) (e : Nat), DgAt W w.heap.size D { d with list := l' } q e → Fm none' w W → Msok l' → callV Tryd.prog 10 [.agg (dgCs { d with list := l' } q e).toList.toArray] W fun v w' => ∃ q' e', v = .tuple #[.slice q' (encD { d with list := l' }).1.length e', .int .i64 (encD { d with list := l' }).2] ∧
      w'.ownsRow w.heap.size 5 1 (.slice q' (encD { d with list := l' }).1.length e') (encD { d with list := l' }).1.length ((encD { d with list := l' }).1.map (Value.int .u8)) ∧ Fm none' W w' := by
    intro W l' q e hdg hF hok'
    have hr := (RowMsgs.at (p := q) hdg.rows hF.size).2
    refine (encode10_c (c := e) (hH.keep hF id) (hdok l') hr (Nat.le_refl _) hok').mono ?_
    rintro v w' ⟨q', e', rfl, ho, hf⟩
    exact ⟨q', e', rfl, own_base ho hF.size, hf⟩
  have hdself : ({ d with list := l } : Dg) = d := by rw [← hdl]
  have henc0 := enc w79 l q0 e0 (by rw [hdself]; exact hdg79) hF79 hok
  rw [hdself] at henc0
  refine henc0.mono ?_
  rintro _ w84 ⟨qb, eb, rfl, hob84, hf84⟩
  simp only [vcs, eqV, nilV, Option.map_some, Nat.mul_one, implies_true, true_and, and_true, and_self, List.getElem?_toArray, List.getElem?_cons_zero, List.getElem?_cons_succ]
  have hF84 := hF79.trans hf84
  refine br_ndec (fun he => ?_) (fun he => ?_)
  · have e1 : packC c l now = (([], (encD d).2), c) := by unfold packC; rw [← hd, if_pos he]
    rw [e1]
    exact ⟨none, 0, F, rfl, World.ownsRow_nil _ _ _ _, fun i hi => (by cases hi), ⟨bl, mk, wv, sv, hs, hc.keep hF84 fun _ _ _ _ _ _ => id, hS.keep hF84 fun _ _ _ _ _ _ => id, hmk⟩, fun i hi => .inl hi, hF84.none⟩
  have he0 : (encD d).2 = 0 := he
  have hc84 : Core w84 F A bl mk c wv sv := hc.keep hF84 fun _ _ _ _ _ _ => id
  have kN : w84.cell? ⟨A, 0, none⟩ = some (.int .u16 c.next) := cellOf hc84.box rfl
  refine rd_of kN ?_
  simp only [vcs, eqV, nilV, Option.map_some, Nat.mul_one, implies_true, true_and, and_true, and_self]
  refine allocC_of fun w96 hb96 hs96 hf96 => ?_
  obtain ⟨X, hX⟩ : ∃ X, X = w84.heap.size := ⟨_, rfl⟩
  rw [← hX] at hb96 ⊢
  have hXw : w.heap.size ≤ X := by rw [hX]; exact hF84.size
  refine stC_all hb96 rfl (fun v hv => by simp at hv; rcases hv with rfl | rfl | rfl <;> rfl) fun w97 hb97 hf97 => ?_
  have hf97' : Fm none' w84 w97 := hf96.trans' hf97 fun i hi e => by omega
  have hF97 : Fm none' w w97 := hF84.trans hf97'
  have hc97 : Core w97 F A bl mk c wv sv := hc.keep hF97 fun _ _ _ _ _ _ => id
  obtain ⟨ms, hms⟩ : ∃ ms, ms = c.wait.map (·.2) := ⟨_, rfl⟩
  have hml : ms.length = c.wait.length := by rw [hms, List.length_map]
  obtain ⟨ids, hids⟩ : ∃ ids, ids = c.wait.map (·.1) := ⟨_, rfl⟩
  have hil : ids.length = c.wait.length := by rw [hids, List.length_map]
  have hmany := hc.many
  have hidlt : ∀ i ∈ ids, i < c.pushed := fun i hi => by
    rw [hids] at hi
    obtain ⟨x, hx, rfl⟩ := List.mem_map.1 hi
    exact (hc.msgs x hx).1
  have hokj : ∀ j, Msok (l ++ ms.take j) := fun j => ⟨fun m hm => by
      rcases List.mem_append.1 hm with hm | hm
      · exact hok.ok m hm
      · rw [hms] at hm
        obtain ⟨x, hx, rfl⟩ := List.mem_map.1 (List.mem_of_mem_take hm)
        exact (hc.msgs x hx).2.1.ok, fun m hm => by
      rcases List.mem_append.1 hm with hm | hm
      · exact hok.len m hm
      · rw [hms] at hm
        obtain ⟨x, hx, rfl⟩ := List.mem_map.1 (List.mem_of_mem_take hm)
        have := (hc.msgs x hx).2.1.len
        omega, by rw [List.length_append, List.length_take]; omega⟩
  obtain ⟨pw, cw, hwv⟩ := hc.wvSl
  -- what holds when j messages have found room
  let J : Nat → World → Value → Prop := fun j W vb => ∃ qb eb hv, vb = .slice qb (encD { d with list := l ++ ms.take j }).1.length eb ∧ (encD { d with list := l ++ ms.take j }).2 = 0 ∧
    W.ownsRow w.heap.size 5 1 (.slice qb (encD { d with list := l ++ ms.take j }).1.length eb) (encD { d with list := l ++ ms.take j }).1.length ((encD { d with list := l ++ ms.take j }).1.map (Value.int .u8)) ∧
    W.heap[X]? = some (.cells #[.int .u16 c.next, .int .u32 now, hv] 97 (0, 0)) ∧ W.ownsRow w.heap.size 98 1 hv j (ptrs bl (ids.take j)) ∧ Fm none' w W
  refine ⟨fun u W => J (fitN d ms) W (u 9), ?_, ?_⟩
  · have k1 : w97.cell? ⟨A, 1, none⟩ = some (.slice pw c.wait.length cw) := by rw [← hwv]; exact cellOf hc97.box rfl
    simp only [addr_add, Nat.zero_add, k1, vcs, eqV, nilV, Option.map_some, Nat.mul_one, implies_true, true_and, and_true, and_self]
    refine ⟨fun u W => ∃ (j : Nat) (q : Option Addr) (e : Nat), j ≤ ms.length ∧ u 57 = .int .i64 j ∧ J j W (u 9) ∧ DgAt W w.heap.size D { d with list := l ++ ms.take j } q e ∧ fitN d ms = j + fitN { d with list := d.list ++ ms.take j } (ms.drop j), fun u _ => ms.length - (intOf (u 57)).toNat, ?_, ?_⟩
    · refine ⟨0, q0, e0, by omega, rfl, ⟨qb, eb, .slice none 0 0, ?_, ?_, ?_, hb97, World.ownsRow_nil _ _ _ _, hF97⟩, ?_, ?_⟩
      · simp only [List.take_zero, List.append_nil, hdself]; rfl
      · simp only [List.take_zero, List.append_nil, hdself]; exact he0
      · simp only [List.take_zero, List.append_nil, hdself]; exact hf97'.owns hob84 fun _ _ => id
      · simp only [List.take_zero, List.append_nil, hdself]; exact (hdg79.keep hf84).keep hf97'
      · simp
    rintro u w111 ⟨j, q, e, hj, h57, hJ, hdg, hfit⟩
    change u 57 = _ at h57
    obtain ⟨qj, ej, hv, h9, hej, hoj, hbX, hoh, hFj⟩ := id hJ
    change u 9 = _ at h9
    simp only [h57, vcs, eqV, nilV, Option.map_some, Nat.mul_one, implies_true, true_and, and_true, and_self]
    refine br_dec (fun hlt => ?_) (fun hge => ?_)
    · obtain ⟨x, hx⟩ : ∃ x, c.wait[j]? = some x := ⟨c.wait[j]'(by omega), by simp⟩
      have hmj : ms[j]? = some x.2 := by rw [hms, List.getElem?_map, hx]; rfl
      have hij : ids[j]? = some x.1 := by rw [hids, List.getElem?_map, hx]; rfl
      have hc111 : Core w111 F A bl mk c wv sv := hc.keep hFj fun _ _ _ _ _ _ => id
      obtain ⟨g, hg, hgF, hcell⟩ : ∃ g, pw = some ⟨g, 0, none⟩ ∧ F g ∧ w111.cell? ⟨g, j, none⟩ = some (.pointer (some ⟨bl x.1, 0, none⟩)) := by
        have ho := hc111.own
        rw [ptrs_map, hwv] at ho
        have hne : c.wait ≠ [] := by intro h; rw [h] at hx; simp at hx
        obtain ⟨g, cap, C, e', -, hrow, -⟩ := own_rowIn (enc := ptr1 fun x : Nat × Msg => adOf bl x.1) (k := 1) (fun _ => rfl) ho hne
        cases e'
        exact ⟨g, rfl, hc.fw g (by rw [hwv]; rfl), hrow.cell1 (Nat.zero_le _) (by omega) hx⟩
      rw [hg]
      simp only [addr_add, Nat.zero_add, Int.toNat_natCast, Nat.mul_one, hcell, vcs, eqV, nilV, Option.map_some, Nat.mul_one, implies_true, true_and, and_true, and_self]
      refine ⟨by omega, ?_⟩
      obtain ⟨L, hL⟩ : ∃ L, L = l ++ ms.take j := ⟨_, rfl⟩
      have hLl : L.length = l.length + j := by rw [hL, List.length_append, List.length_take]; omega
      have hLn : L ++ [x.2] = l ++ ms.take (j + 1) := by rw [hL, List.take_add_one, hmj, List.append_assoc]; rfl
      rw [← hL] at hdg
      obtain ⟨hbD, hrD⟩ := hdg
      obtain ⟨qs, hql, hro, hrq⟩ := hrD
      change qs.length = L.length at hql
      obtain ⟨rv, hrv⟩ : ∃ rv, rv = Value.slice q L.length e := ⟨_, rfl⟩
      change w111.ownsRow w.heap.size 53 23 (.slice q L.length e) L.length ((L.zip qs).flatMap fun x => msgC x.1 x.2.1 x.2.2) at hro
      have hbD' : w111.heap[D]? = some (.cells #[.int .u16 d.seq, .bool d.any, .int .u16 d.last, .int .u32 d.bits, .slice q L.length e] 32 (0, 0)) := hbD
      rw [← hrv] at hro
      have hrvb : ∀ i, rv.ownBlock = some i → w.heap.size ≤ i ∧ ∃ C, w111.heap[i]? = some (.cells C 53 (0, 0)) := fun i hi => own_block hro hi
      have rvD : ¬ rv.ownBlock = some D := fun h => by
        obtain ⟨_, C, hC⟩ := hrvb D h
        rw [hbD'] at hC; cases hC
      obtain ⟨hxl, hxok, qx, cqx, hbx, hbo⟩ := hc111.msgs x (List.mem_of_getElem? hx)
      have hblx : bl x.1 < w.heap.size := hB _ (hc.ids _ hxl).1
      have rvx : ¬ rv.ownBlock = some (bl x.1) := fun h => by have := (hrvb _ h).1; omega
      have kD : w111.drew.cell? ⟨D, 4, none⟩ = some (.slice q L.length e) := cellOf (w := w111.drew) hbD' rfl
      have kx : cellsAt w111.drew ⟨bl x.1, 0, none⟩ 23 = some (msgC x.2 qx cqx) := cells_row (w := w111.drew) (i := 0) (n := 23) hbx (by show 23 ≤ 24; omega)
      refine ⟨fun w' => Fm (fun i => rv.ownBlock = some i) w111.drew w', Fm.refl _ _, ?_⟩
      refine rd_of kD ⟨fun w' hf => rd_of (hf.cell kD rvD) rfl, ?_⟩
      simp only [vcs, eqV, nilV, Option.map_some, Nat.mul_one, implies_true, true_and, and_true, and_self]
      refine rd_of kx ⟨fun w' hf => rd_of (hf.cells rvx kx) rfl, ?_⟩
      refine build_Sg (by rw [row24]) row53 rfl (by omega) (by omega) rfl fun w142 hb142 hs142 hf142 => ?_
      simp only [vcs, eqV, nilV, Option.map_some, Nat.mul_one, implies_true, true_and, and_true, and_self]
      refine ⟨hf142.none, ?_⟩
      have hro142 : w142.ownsRow w.heap.size 53 23 (.slice q L.length e) L.length ((L.zip qs).flatMap fun x => msgC x.1 x.2.1 x.2.2) := by
        rw [← hrv]
        exact hf142.owns (w := w111.drew) hro fun _ _ => id
      have hsz111 := hFj.size
      have hsz142 : w111.heap.size ≤ w142.heap.size := hf142.size
      refine append_rS (m := 1) (ys := msgC x.2 qx cqx) (by rw [row24]) row53 rfl (by omega) hro142 rfl msgC_one (fun k y hy => ?_) (by omega) (by simp only [maxLen]; omega) (by omega) fun p' c' w147 ho147 hf147 hblk147 => ?_
      · exact ⟨_, _, rfl, by rw [Nat.zero_add]; exact cellOf hb142 (by simpa using hy)⟩
      simp only [vcs, eqV, nilV, Option.map_some, Nat.mul_one, implies_true, true_and, and_true, and_self]
      rw [← hrv] at hf147
      have hf147' : Fm (fun i => rv.ownBlock = some i) w111.drew w147 := hf142.none.trans hf147
      refine ⟨hf147', ?_⟩
      have hbD147 := hf147'.keep (w := w111.drew) hbD' rvD
      refine stC_one hbD147 (by simp) rfl fun w152 hb152 hf152 => ?_
      have hbD152 : w152.heap[D]? = some (.cells (dgCs { d with list := L ++ [x.2] } p' c') 32 (0, 0)) := by
        have e1 : dgCs { d with list := L ++ [x.2] } p' c' = #[.int .u16 d.seq, .bool d.any, .int .u16 d.last, .int .u32 d.bits, .slice p' (L.length + 1) c'] := by
          unfold dgCs
          simp only [List.length_append, List.length_cons, List.length_nil, Nat.zero_add]
        rw [e1]; exact hb152
      refine rd_of (cells_all hbD152 rfl) ?_
      have hfD : Fm (fun i => rv.ownBlock = some i ∨ i = D) w111 w152 := ((Fm.drew w111).none.trans (hf147'.mono fun i _ h => .inl h)).trans (hf152.mono fun i _ h => .inr h)
      have hF152 : Fm none' w w152 := hFj.trans' hfD fun i hi h => by
        rcases h with h | h
        · have := (hrvb i h).1; omega
        · omega
      have hpn : (Value.slice p' (L.length + 1) c').ownBlock ≠ some D := fun h => by
        obtain ⟨_, cur, hcur⟩ := own_block ho147 h
        rw [hbD147] at hcur; cases hcur
      have hdg152 : DgAt w152 w.heap.size D { d with list := L ++ [x.2] } p' c' := by
        refine ⟨hbD152, ?_⟩
        have hlen1 : (L ++ [x.2]).length = L.length + 1 := by simp
        show RowMsgs w152 w.heap.size w.heap.size (.slice p' (L ++ [x.2]).length c') (L ++ [x.2])
        rw [hlen1]
        refine ⟨qs ++ [(qx, cqx)], by simp [hql], ?_, ?_⟩
        · have e1 : ((L ++ [x.2]).zip (qs ++ [(qx, cqx)])).flatMap (fun x => msgC x.1 x.2.1 x.2.2) = (L.zip qs).flatMap (fun x => msgC x.1 x.2.1 x.2.2) ++ msgC x.2 qx cqx := by
            rw [List.zip_append hql.symm, List.flatMap_append]
            simp
          rw [hlen1, e1]
          refine hf152.owns ho147 fun i hi hiD => ?_
          rw [hiD] at hi
          exact hpn hi
        · intro k m q' hk hq
          have hkl : k < L.length + 1 := by have := (List.getElem?_eq_some_iff.1 hk).1; rw [hlen1] at this; exact this
          by_cases hkj : k < L.length
          · rw [List.getElem?_append_left hkj] at hk
            rw [List.getElem?_append_left (by omega)] at hq
            obtain ⟨b1, b2⟩ := hrq k m q' hk hq
            refine ⟨b1.keepN hfD fun ad e1 hne h => ?_, b2⟩
            have := b2 ad e1 hne
            rcases h with h | h
            · have := (hrvb _ h).1; omega
            · omega
          · have hkk : k = L.length := by omega
            subst hkk
            rw [List.getElem?_append_right (by omega)] at hk
            rw [List.getElem?_append_right (by omega), hql] at hq
            simp at hk hq
            subst hk hq
            have hin : ∀ ad, qx = some ad → ad.block < w.heap.size := fun ad e1 => hB _ (hbo.2 ad.block (by rw [e1]; rfl))
            refine ⟨(BytesAt.of_own hbo.1).keep hfD fun ad e1 h => ?_, fun ad e1 _ => hin ad e1⟩
            have := hin ad e1
            rcases h with h | h
            · have := (hrvb _ h).1; omega
            · omega
      have hLok : Msok (L ++ [x.2]) := by rw [hLn]; exact hokj _
      refine (enc w152 (L ++ [x.2]) p' c' hdg152 hF152 hLok).mono ?_
      rintro _ w156 ⟨q2, e2, rfl, ho2, hf156⟩
      simp only [vcs, eqV, nilV, Option.map_some, Nat.mul_one, implies_true, true_and, and_true, and_self, List.getElem?_toArray, List.getElem?_cons_zero, List.getElem?_cons_succ]
      have hfall : Fm (fun i => rv.ownBlock = some i ∨ i = D) w111 w156 := hfD.trans (hf156.mono fun _ _ h => h.elim)
      have hF156 : Fm none' w w156 := hF152.trans hf156
      have hno : ∀ (i : Nat) (C : Array Value) (t : TypeId), w111.heap[i]? = some (Obj.cells C t (0, 0)) → t ≠ 53 → t ≠ 32 → ¬ (rv.ownBlock = some i ∨ i = D) := by
        rintro i C t hi h1 h2 (h | rfl)
        · obtain ⟨_, C', hC'⟩ := hrvb i h
          rw [hi] at hC'; cases hC'; exact h1 rfl
        · rw [hbD'] at hi; cases hi; exact h2 rfl
      have hbX156 := hfall.keep hbX (hno _ _ _ hbX (by decide) (by decide))
      have hoh156 := hfall.owns hoh fun i hi => by
        obtain ⟨_, cur, hcur⟩ := own_block hoh hi
        exact hno i _ _ hcur (by decide) (by decide)
      have hoj156 := hfall.owns hoj fun i hi => by
        obtain ⟨_, cur, hcur⟩ := own_block hoj hi
        exact hno i _ _ hcur (by decide) (by decide)
      have hdL : d.list ++ ms.take j = L := by rw [hdl, hL]
      refine br_ndec (fun hne => ?_) (fun hz => ?_)
      · have hstop := fitN_stop d ms j hfit x.2 hmj (by rw [hdL]; exact hne)
        rw [hstop]
        exact ⟨qj, ej, hv, h9, hej, hoj156, hbX156, hoh156, hF156⟩
      have hsplit := fitN_split d ms j hfit x.2 hmj (by rw [hdL]; exact hz)
      obtain ⟨ph, ch, rfl, -⟩ := own_read hoh156
      have kX : w156.cell? ⟨X, 2, none⟩ = some (.slice ph j ch) := cellOf hbX156 rfl
      simp only [kX, vcs, eqV, nilV, Option.map_some, Nat.mul_one, implies_true, true_and, and_true, and_self]
      refine append_1g (by rw [row74]) row98 rfl rfl hoh156 hF156.size (by simp only [maxLen]; omega) (by omega) fun p3 c3 w175 ho175 hf175 hblk175 => ?_
      simp only [vcs, eqV, nilV, Option.map_some, Nat.mul_one, implies_true, true_and, and_true, and_self]
      have hphb : ∀ i, (Value.slice ph j ch).ownBlock = some i → w.heap.size ≤ i ∧ ∃ C, w156.heap[i]? = some (.cells C 98 (0, 0)) := fun i hi => own_block hoh156 hi
      have hbX175 := hf175.keep hbX156 fun h => by
        obtain ⟨_, C, hC⟩ := hphb X h
        rw [hbX156] at hC; cases hC
      refine stC_one hbX175 (by simp) rfl fun w187 hb187 hf187 => ?_
      have hfl : Fm (fun i => (Value.slice ph j ch).ownBlock = some i ∨ i = X) w156 w187 := (hf175.mono fun i _ h => .inl h).trans (hf187.mono fun i _ h => .inr h)
      have hno2 : ∀ (i : Nat) (C : Array Value) (t : TypeId), w156.heap[i]? = some (Obj.cells C t (0, 0)) → t ≠ 98 → t ≠ 97 → ¬ ((Value.slice ph j ch).ownBlock = some i ∨ i = X) := by
        rintro i C t hi h1 h2 (h | rfl)
        · obtain ⟨_, C', hC'⟩ := hphb i h
          rw [hi] at hC'; cases hC'; exact h1 rfl
        · rw [hbX156] at hi; cases hi; exact h2 rfl
      rw [show IntKind.i64.wrap ((j : Int) + 1) = ((j + 1 : Nat) : Int) from (w64 (by omega)).trans (by omega)]
      have hF187 : Fm none' w w187 := hF156.trans' hfl fun i hi h => by
        rcases h with h | h
        · have := (hphb i h).1; omega
        · omega
      refine ⟨⟨j + 1, p', c', by omega, rfl, ⟨q2, e2, .slice p3 (j + 1) c3, ?_, ?_, ?_, hb187, ?_, hF187⟩, ?_, hsplit⟩, ?_⟩
      · rw [← hLn]; rfl
      · rw [← hLn]; exact hz
      · rw [← hLn]
        refine hfl.owns ho2 fun i hi => ?_
        obtain ⟨_, cur, hcur⟩ := own_block ho2 hi
        exact hno2 i _ _ hcur (by decide) (by decide)
      · have e1 : ptrs bl (ids.take (j + 1)) = ptrs bl (ids.take j) ++ [.pointer (some ⟨bl x.1, 0, none⟩)] := by
          rw [List.take_add_one, hij]
          unfold ptrs
          rw [List.flatMap_append]
          rfl
        rw [e1]
        refine hf187.owns ho175 fun i hi hiX => ?_
        obtain ⟨_, cur, hcur⟩ := own_block ho175 hi
        rw [hiX, hbX175] at hcur; cases hcur
      · rw [← hLn]
        have hdg156 := hdg152.keep hf156
        refine ⟨hfl.keep hdg156.blk (hno2 _ _ _ hdg156.blk (by decide) (by decide)), ?_⟩
        obtain ⟨qs', r1, r2, r3⟩ := hdg156.rows
        refine ⟨qs', r1, hfl.owns r2 fun i hi => ?_, fun k m q' hk hq => ⟨(r3 k m q' hk hq).1.keepN hfl fun ad e1 hne h => ?_, (r3 k m q' hk hq).2⟩⟩
        · obtain ⟨_, cur, hcur⟩ := own_block r2 hi
          exact hno2 i _ _ hcur (by decide) (by decide)
        · have := (r3 k m q' hk hq).2 ad e1 hne
          rcases h with h | h
          · have := (hphb _ h).1; omega
          · omega
      · show ms.length - ((j + 1 : Nat) : Int).toNat < ms.length - (j : Int).toNat
        omega
    · have hjl : j = ms.length := by omega
      have hd0 : fitN d ms = j := by rw [hfit, hjl, List.drop_length]; rfl
      rw [hd0]
      exact hJ
  rintro u3 w192 ⟨qb2, eb2, hv, h9, hez, hob, hbX, hoh, hF192⟩
  change u3 9 = _ at h9
  obtain ⟨k, hk⟩ : ∃ k, k = fitN d ms := ⟨_, rfl⟩
  rw [← hk] at h9 hez hob hoh
  have hkl : k ≤ ms.length := by rw [hk]; exact fitN_le d ms
  obtain ⟨ys, hys⟩ : ∃ ys, ys = (encD { d with list := l ++ ms.take k }).1 := ⟨_, rfl⟩
  rw [← hys] at h9 hob
  have hpack : packC c l now = ((ys, 0), { c with sent := c.sent ++ [⟨c.next, now, ids.take k⟩], next := (c.next + 1) % 65536 }) := by
    unfold packC
    rw [← hd, if_neg (by simpa using he0), ← hms, ← hids, ← hk, ← hys]
  rw [hpack]
  have hc192 : Core w192.drew F A bl mk c wv sv := hc.keep (hF192.trans (Fm.drew w192)) fun _ _ _ _ _ _ => id
  have hS192 : SentAt w192.drew F bl c.pushed c.sent wv sv hs := hS.keep (hF192.trans (Fm.drew w192)) fun _ _ _ _ _ _ => id
  obtain ⟨ps, cs, hsv, hsvl, -⟩ := own_readS hS192.own
  have hsvb : ∀ i, sv.ownBlock = some i → i < w.heap.size ∧ ∃ C, w192.heap[i]? = some (.cells C 97 (0, 0)) := fun i hi => ⟨hB i (hS.fs i hi), (own_block hS192.own hi).2⟩
  have svA : ¬ sv.ownBlock = some A := fun h => by
    obtain ⟨_, C, hC⟩ := hsvb A h
    have := hc192.box
    unfold BoxA at this
    have h1 : w192.drew.heap[A]? = w192.heap[A]? := rfl
    rw [h1, hC] at this; cases this
  have svX : ¬ sv.ownBlock = some X := fun h => by have := (hsvb X h).1; omega
  have kS : w192.drew.cell? ⟨A, 2, none⟩ = some (.slice ps c.sent.length cs) := by rw [← hsv]; exact cellOf hc192.box rfl
  have kX : cellsAt w192.drew ⟨X, 0, none⟩ 3 = some [.int .u16 c.next, .int .u32 now, hv] := cells_all (w := w192.drew) hbX rfl
  simp only [h9, addr_add, Nat.zero_add]
  refine ⟨fun w' => Fm (fun i => sv.ownBlock = some i) w192.drew w', Fm.refl _ _, ?_⟩
  simp only [vcs, eqV, nilV, Option.map_some, Nat.mul_one, implies_true, true_and, and_true, and_self]
  refine rd_of kS ⟨fun w' hf => rd_of (hf.cell kS svA) rfl, ?_⟩
  simp only [vcs, eqV, nilV, Option.map_some, Nat.mul_one, implies_true, true_and, and_true, and_self]
  refine rd_of kX ⟨fun w' hf => rd_of (hf.cells svX kX) rfl, ?_⟩
  refine build_Sg (by rw [row75]) row97 rfl (by omega) (by omega) rfl fun w215 hb215 hs215 hf215 => ?_
  simp only [vcs, eqV, nilV, Option.map_some, Nat.mul_one, implies_true, true_and, and_true, and_self]
  refine ⟨hf215.none, ?_⟩
  have hown215 : w215.ownsRow 0 97 3 (.slice ps c.sent.length cs) c.sent.length ((c.sent.zip hs).flatMap entC) := by
    rw [← hsv]
    exact hf215.owns hS192.own fun _ _ => id
  have hvone := own_one hoh
  refine append_rS (m := 1) (ys := [.int .u16 c.next, .int .u32 now, hv]) (by rw [row75]) row97 rfl (by omega) hown215 rfl (fun v hv' => ?_) (fun j y hy => ?_) (Nat.zero_le _) (by simp only [maxLen]; omega) (by omega) fun p' c' w220 ho220 hf220 hblk220 => ?_
  · simp at hv'
    rcases hv' with rfl | rfl | rfl
    · rfl
    · rfl
    · exact hvone
  · exact ⟨_, _, rfl, by rw [Nat.zero_add]; exact cellOf hb215 (by simpa using hy)⟩
  simp only [vcs, eqV, nilV, Option.map_some, Nat.mul_one, implies_true, true_and, and_true, and_self]
  rw [← hsv] at hf220 hblk220
  have hf220' : Fm (fun i => sv.ownBlock = some i) w192.drew w220 := hf215.none.trans hf220
  refine ⟨hf220', ?_⟩
  have hbox220 := hf220'.keep hc192.box svA
  refine stC_one hbox220 (by simp) rfl fun w224 hb224 hf224 => ?_
  refine ⟨fun w' => w' = w224.drew, rfl, ?_⟩
  have k2 : w224.drew.cell? ⟨A, 2, none⟩ = some (.slice p' (c.sent.length + 1) c') := cellOf (w := w224.drew) hb224 rfl
  simp only [k2, forall_eq, vcs, eqV, nilV, Option.map_some, Nat.mul_one, implies_true, true_and, and_true, and_self]
  have emax : max 0 (IntKind.i64.wrap (((c.sent.length + 1 : Nat) : Int) - 64)) = ((0 : Nat) : Int) := by
    rw [w64 (by omega)]; omega
  rw [emax]
  obtain ⟨g, hpg, hc1⟩ : ∃ g, p' = some ⟨g, 0, none⟩ ∧ c.sent.length + 1 ≤ c' := by
    rcases ho220.2 with ⟨e, h⟩ | ⟨g, cap, C, e, -, -, h, -⟩
    · omega
    · simp only [Value.slice.injEq] at e
      exact ⟨g, e.1, by omega⟩
  refine sliceAt_loS (by rw [row75]) row97 (by omega) (by omega) ?_
  refine ⟨sliceAt_loS (by rw [row75]) row97 (by omega) (by omega) (by first | exact ⟨rfl, rfl⟩ | rfl), ?_⟩
  simp only [vcs, eqV, nilV, Option.map_some, Nat.mul_one, implies_true, true_and, and_true, and_self]
  rw [hpg] at hb224 ho220 hblk220 ⊢
  simp only [Option.map_some, addr_add, Nat.zero_add, Int.toNat_natCast, Nat.zero_mul, Nat.sub_zero, ite_self]
  refine stC_one (w := w224.drew) hb224 (by simp) rfl fun w269 hb269 hf269 => ?_
  have kn : w269.cell? ⟨A, 0, none⟩ = some (.int .u16 c.next) := cellOf hb269 rfl
  simp only [kn, vcs, eqV, nilV, Option.map_some, Nat.mul_one, implies_true, true_and, and_true, and_self]
  have enx : IntKind.u16.wrap ((c.next : Int) + 1) = (((c.next + 1) % 65536 : Nat) : Int) := w16m (c.next + 1)
  rw [enx]
  refine stC_one hb269 (by simp) rfl fun w272 hb272 hf272 => ?_
  -- what holds in the end
  have hfA : Fm (fun i => i = A) w220 w272 := ((hf224.trans (Fm.drew w224).none).trans hf269).trans hf272
  have hfe : Fm (fun i => sv.ownBlock = some i ∨ i = A) w192 w272 := ((Fm.drew w192).none.trans (hf220'.mono fun i _ h => .inl h)).trans (hfA.mono fun i _ h => .inr h)
  have hbox192 : BoxA w192 A (.int .u16 c.next) wv sv c.win (.int .i64 c.rtt) (.bool c.timed) (.int .u32 c.heard) := hc192.box
  have hno : ∀ (i : Nat) (C : Array Value) (t : TypeId), w192.heap[i]? = some (Obj.cells C t (0, 0)) → t ≠ 97 → t ≠ 79 → ¬ (sv.ownBlock = some i ∨ i = A) := by
    rintro i C t hi h1 h2 (h | rfl)
    · obtain ⟨_, C', hC'⟩ := hsvb i h
      rw [hi] at hC'; cases hC'; exact h1 rfl
    · unfold BoxA at hbox192
      rw [hi] at hbox192; cases hbox192; exact h2 rfl
  have hFall : Fm F w w272 := hF192.none.trans (hfe.mono fun i _ h => by
    rcases h with h | h
    · exact hS.fs i h
    · exact h ▸ hc.fA)
  have hob272 := hfe.owns hob fun i hi => by
    obtain ⟨_, cur, hcur⟩ := own_block hob hi
    exact hno i _ _ hcur (by decide) (by decide)
  have hoh272 := hfe.owns hoh fun i hi => by
    obtain ⟨_, cur, hcur⟩ := own_block hoh hi
    exact hno i _ _ hcur (by decide) (by decide)
  have hnoA : ∀ (i : Nat) (C : Array Value) (t : TypeId), w220.heap[i]? = some (Obj.cells C t (0, 0)) → t ≠ 79 → ¬ i = A := by
    rintro i C t hi h2 rfl
    rw [hbox220] at hi; cases hi; exact h2 rfl
  have hos272 := hfA.owns ho220 fun i hi => by
    obtain ⟨_, cur, hcur⟩ := own_block ho220 hi
    exact hnoA i _ _ hcur (by decide)
  obtain ⟨F', hF'⟩ : ∃ F' : Nat → Prop, F' = fun i => F i ∨ w.heap.size ≤ i ∧ ∃ C t, w272.heap[i]? = some (.cells C t (0, 0)) ∧ (t = 97 ∨ t = 98) := ⟨_, rfl⟩
  have hsub : ∀ i, F i → F' i := fun i hi => by rw [hF']; exact .inl hi
  have hF'lt : ∀ i, F' i → i < w272.heap.size := fun i hi => by
    rw [hF'] at hi
    rcases hi with hi | ⟨_, C, t, hC, _⟩
    · exact Nat.lt_of_lt_of_le (hB i hi) hFall.size
    · exact lt_of_blk hC
  have hcore : Core w272 F A bl mk { c with sent := c.sent ++ [⟨c.next, now, ids.take k⟩], next := (c.next + 1) % 65536 } wv (.slice (some ⟨g, 0, none⟩) (c.sent.length + 1) c') := by
    have h220 : Core w220 F A bl mk c wv sv := hc192.keep hf220' fun i C t hi hF ht h => by
      obtain ⟨_, C', hC'⟩ := hsvb i h
      have h1 : w192.drew.heap[i]? = w192.heap[i]? := rfl
      rw [h1, hC'] at hi; cases hi
      rcases ht with h | ⟨h, _⟩ | h | h <;> cases h
    exact h220.turn hfA rfl rfl hb272 hc.wok (Nat.mod_lt _ (by omega)) hc.heard hc.rtt
  refine ⟨qb2, eb2, F', rfl, hob272, fun i hi hFi => ?_, ⟨bl, mk, wv, _, hs ++ [hv], hcore.up hsub hF'lt, ?_, hmk⟩, fun i hi => ?_, hFall⟩
  · obtain ⟨h1, cur, hcur⟩ := own_block hob272 hi
    rw [hF'] at hFi
    rcases hFi with h | ⟨_, C, t, hC, ht⟩
    · have := hB i h; omega
    · rw [hcur] at hC; cases hC
      rcases ht with h | h <;> cases h
  · have hlen := hS.len
    have ezip : (c.sent ++ [(⟨c.next, now, ids.take k⟩ : Ent)]).zip (hs ++ [hv]) = c.sent.zip hs ++ [(⟨c.next, now, ids.take k⟩, hv)] := by
      rw [List.zip_append hlen.symm]; rfl
    refine ⟨by simp [hlen], ?_, ?_, ?_, ?_⟩
    · show w272.ownsRow 0 97 3 _ (c.sent ++ [(⟨c.next, now, ids.take k⟩ : Ent)]).length (((c.sent ++ [(⟨c.next, now, ids.take k⟩ : Ent)]).zip (hs ++ [hv])).flatMap entC)
      rw [ezip, List.flatMap_append, List.length_append]
      exact hos272
    · intro i hi
      obtain ⟨_, cur, hcur⟩ := own_block hos272 hi
      rw [hF']
      rcases hblk220 with h | h
      · rw [h] at hi; exact .inl (hS.fs i hi)
      · rw [h] at hi; cases hi
        exact .inr ⟨by have := hF192.size; have := hf215.size; have h3 : w192.drew.heap.size = w192.heap.size := rfl; omega, _, _, hcur, .inl rfl⟩
    · intro j e x he hx
      by_cases hj : j < c.sent.length
      · rw [List.getElem?_append_left hj] at he
        rw [List.getElem?_append_left (by omega)] at hx
        have h1 := hS192.has j e x he hx
        refine (HasAt.keep (S := fun i => sv.ownBlock = some i ∨ i = A) h1 (((hf220'.mono fun i _ h => .inl h)).trans (hfA.mono fun i _ h => .inr h)) fun i C hi hFi hw => ?_).up hsub
        exact hno i C _ hi (by decide) (by decide)
      · have hjl := (List.getElem?_eq_some_iff.1 he).1
        rw [List.length_append] at hjl
        have hje : j = c.sent.length := by simp at hjl; omega
        subst hje
        rw [List.getElem?_append_right (by omega)] at he
        rw [List.getElem?_append_right (by omega), hlen] at hx
        simp at he hx
        subst he hx
        have hkk : (ids.take k).length = k := by rw [List.length_take]; omega
        refine ⟨?_, fun i hi => ?_, fun i hi => hidlt i (List.mem_of_mem_take hi)⟩
        · show w272.ownsRow 0 98 1 hv (ids.take k).length (ptrs bl (ids.take k))
          rw [hkk]
          exact own_base hoh272 (Nat.zero_le _)
        · obtain ⟨h1, cur, hcur⟩ := own_block hoh272 hi
          refine ⟨by rw [hF']; exact .inr ⟨h1, _, _, hcur, .inr rfl⟩, fun hw => ?_⟩
          have := hB i (hc.fw i hw)
          omega
    · intro e he
      rcases List.mem_append.1 he with he | he
      · exact hS.rng e he
      · obtain rfl : e = ⟨c.next, now, ids.take k⟩ := by simpa using he
        exact ⟨hc.next, hnow⟩
  · rw [hF'] at hi
    rcases hi with h | ⟨h, _⟩
    · exact .inl h
    · exact .inr h
end
end Go.Proofs.YtipikchkbmgloaaDoor
namespace Go.Proofs.YtipikchkbmgloaaDoor
set_option linter.unusedSimpArgs false
set_option linter.unusedVariables false
open Go VC
theorem vc8 (w : World) (R : Value → World → Prop)
  (h : callV Tryd.prog (15 : Nat) [] w fun v0 w1 => isP v0 fun o2 => callV Tryd.prog (15 : Nat) [] w1 fun v3 w4 => isP v3 fun o5 => br (Option.isNone o2) (R (Value.bool false) w4) (br (Option.isNone o5) (R (Value.bool false) w4) (callV Tryd.prog (19 : Nat) [Value.pointer o2, Value.agg #[Value.int IntKind.i64 (7 : Int), Value.int IntKind.u16 (0 : Int), Value.int IntKind.u16 (0 : Int), Value.int IntKind.u8 (0 : Int), Value.int IntKind.i8 (0 : Int), Value.int IntKind.i8 (0 : Int), Value.int IntKind.i64 (0 : Int), Value.int IntKind.u16 (3 : Int), Value.int IntKind.i64 (9 : Int), Value.int IntKind.i64 (0 : Int), Value.int IntKind.i64 (0 : Int), Value.int IntKind.i64 (0 : Int), Value.int IntKind.i64 (0 : Int), Value.int IntKind.i64 (0 : Int), Value.int IntKind.i64 (0 : Int), Value.int IntKind.i64 (0 : Int), Value.int IntKind.i64 (0 : Int), Value.int IntKind.i64 (0 : Int), Value.int IntKind.i64 (0 : Int), Value.int IntKind.i64 (0 : Int), Value.int IntKind.u32 (0 : Int), Value.int IntKind.u32 (0 : Int), Value.slice none (0 : Nat) (0 : Nat)]] w4 fun v6 w7 => isK IntKind.i64 v6 fun i8 => callV Tryd.prog (17 : Nat) [Value.pointer o2, Value.slice none (0 : Nat) (0 : Nat), Value.int IntKind.u32 (5 : Int)] w7 fun v9 w10 => isTup v9 fun l11 => rd l11[(0 : Nat)]? fun v12 => isSl v12 fun o13 n14 n15 => isTup v9 fun l16 => rd l16[(1 : Nat)]? fun v17 => isK IntKind.i64 v17 fun i18 => callV Tryd.prog (18 : Nat) [Value.pointer o5, Value.slice o13 n14 n15, Value.int IntKind.u32 (7 : Int)] w10 fun v19 w20 => isTup v19 fun l21 => rd l21[(0 : Nat)]? fun v22 => isSl v22 fun o23 n24 n25 => isTup v19 fun l26 => rd l26[(1 : Nat)]? fun v27 => isK IntKind.i64 v27 fun i28 => callV Tryd.prog (18 : Nat) [Value.pointer o5, Value.slice o13 n14 n15, Value.int IntKind.u32 (8 : Int)] w20 fun v29 w30 => isTup v29 fun l31 => rd l31[(0 : Nat)]? fun v32 => isSl v32 fun o33 n34 n35 => isTup v29 fun l36 => rd l36[(1 : Nat)]? fun v37 => isK IntKind.i64 v37 fun i38 => runs Tryd.prog (Instr.buildSlice (24 : Nat) (1 : Nat) #[((0 : Nat), Value.agg #[Value.int IntKind.i64 (1 : Int), Value.int IntKind.u16 (0 : Int), Value.int IntKind.u16 (0 : Int), Value.int IntKind.u8 (0 : Int), Value.int IntKind.i8 (0 : Int), Value.int IntKind.i8 (0 : Int), Value.int IntKind.i64 (0 : Int), Value.int IntKind.u16 (0 : Int), Value.int IntKind.i64 (0 : Int), Value.int IntKind.i64 (0 : Int), Value.int IntKind.i64 (0 : Int), Value.int IntKind.i64 (0 : Int), Value.int IntKind.i64 (0 : Int), Value.int IntKind.i64 (0 : Int), Value.int IntKind.i64 (0 : Int), Value.int IntKind.i64 (0 : Int), Value.int IntKind.i64 (0 : Int), Value.int IntKind.i64 (0 : Int), Value.int IntKind.i64 (0 : Int), Value.int IntKind.i64 (0 : Int), Value.int IntKind.u32 (0 : Int), Value.int IntKind.u32 (0 : Int), Value.slice none (0 : Nat) (0 : Nat)])]) w30 fun v39 w40 => isSl v39 fun o41 n42 n43 => callV Tryd.prog (17 : Nat) [Value.pointer o5, Value.slice o41 n42 n43, Value.int IntKind.u32 (9 : Int)] w40 fun v44 w45 => isTup v44 fun l46 => rd l46[(0 : Nat)]? fun v47 => isSl v47 fun o48 n49 n50 => isTup v44 fun l51 => rd l51[(1 : Nat)]? fun v52 => isK IntKind.i64 v52 fun i53 => callV Tryd.prog (18 : Nat) [Value.pointer o2, Value.slice o48 n49 n50, Value.int IntKind.u32 (11 : Int)] w45 fun v54 w55 => isTup v54 fun l56 => rd l56[(0 : Nat)]? fun v57 => isSl v57 fun o58 n59 n60 => isTup v54 fun l61 => rd l61[(1 : Nat)]? fun v62 => isK IntKind.i64 v62 fun i63 => br (decide (i8 = (0 : Int))) (br (decide (i18 = (0 : Int))) (br (decide (i28 = (0 : Int))) (br (decide ((↑n24 : Int) = (1 : Int))) (rd o23 fun a64 => ((0 : Int) ≤ (0 : Int) ∧ (0 : Int) < (↑n24 : Int)) ∧ rd (World.cell? w55 (Addr.add a64 (8 : Nat))) fun v65 => isK IntKind.i64 v65 fun i66 => br (decide (i66 = (9 : Int))) (br (decide (i38 = (7 : Int))) (br (decide (i53 = (0 : Int))) (br (decide (i63 = (0 : Int))) (br (decide ((↑n59 : Int) = (1 : Int))) (callV Tryd.prog (20 : Nat) [Value.pointer o2] w55 fun v67 w68 => isK IntKind.i64 v67 fun i69 => br (decide (i69 = (0 : Int))) (callV Tryd.prog (21 : Nat) [Value.pointer o2] w68 fun v70 w71 => isK IntKind.i64 v70 fun i72 => R (Value.bool (decide (i72 = (6 : Int)))) w71) (R (Value.bool false) w68)) (R (Value.bool false) w55)) (R (Value.bool false) w55)) (R (Value.bool false) w55)) (R (Value.bool false) w55)) (R (Value.bool false) w55)) (R (Value.bool false) w55)) (R (Value.bool false) w55)) (R (Value.bool false) w55)) (R (Value.bool false) w55)))) :
  callV Tryd.prog 8 [] w R :=
  vc_of hm noHints Tryd.func8 ent8 (by kernel_rfl) h

theorem vc3 (a : Int) (b : Bool) (c : Int) (d : Int) (ep : Option Addr) (en : Nat) (ec : Nat) (p5p : Option Addr) (p5n : Nat) (p5c : Nat) (w : World) (R : Value → World → Prop)
  (h : callV Tryd.prog (8 : Nat) [] w fun v0 w1 => isB v0 fun t2 => callV Tryd.prog (9 : Nat) [Value.slice ep en ec] w1 fun v3 w4 => isSl v3 fun o5 n6 n7 => runs Tryd.prog (Instr.buildSlice (25 : Nat) (0 : Nat) #[]) w4 fun v8 w9 => isSl v8 fun o10 n11 n12 => runs Tryd.prog (Instr.sliceAt (25 : Nat) (Value.slice p5p p5n p5c) none (some (Value.int IntKind.i64 (min (↑p5n : Int) (2000 : Int)))) none) w9 fun v13 w14 => isSl v13 fun o15 n16 n17 => runs Tryd.prog (Builtin.append_ #[(25 : Nat), (25 : Nat)] (25 : Nat) #[Value.slice o10 n11 n12, Value.slice o15 n16 n17]) w14 fun v18 w19 => isSl v18 fun o20 n21 n22 => callV Tryd.prog (10 : Nat) [Value.agg #[Value.int IntKind.u16 a, Value.bool b, Value.int IntKind.u16 c, Value.int IntKind.u32 d, Value.slice o5 n6 n7]] w19 fun v23 w24 => isTup v23 fun l25 => rd l25[(0 : Nat)]? fun v26 => isSl v26 fun o27 n28 n29 => isTup v23 fun l30 => rd l30[(1 : Nat)]? fun v31 => isK IntKind.i64 v31 fun i32 => callV Tryd.prog (11 : Nat) [Value.agg #[Value.int IntKind.u16 a, Value.bool b, Value.int IntKind.u16 c, Value.int IntKind.u32 d, Value.slice o5 n6 n7]] w24 fun v33 w34 => isTup v33 fun l35 => rd l35[(0 : Nat)]? fun v36 => isStr v36 fun x37 => isTup v33 fun l38 => rd l38[(1 : Nat)]? fun v39 => isK IntKind.i64 v39 fun i40 => callV Tryd.prog (12 : Nat) [Value.slice o20 n21 n22] w34 fun v41 w42 => isTup v41 fun l43 => rd l43[(0 : Nat)]? fun v44 => isTup v41 fun l45 => rd l45[(1 : Nat)]? fun v46 => isK IntKind.i64 v46 fun i47 => allocC w42 (Obj.cells #[Value.int IntKind.u16 (0 : Int), Value.bool false, Value.int IntKind.u16 (0 : Int), Value.int IntKind.u32 (0 : Int), Value.slice none (0 : Nat) (0 : Nat)] (32 : Nat)) fun n48 w49 => rd (gd (List.length (Array.toList (Value.cells v44)) == (5 : Nat))) fun _x => stC w49 { block := n48, off := (0 : Nat) : Addr } (cellsOf true v44) fun w50 => runs Tryd.prog (convert (25 : Nat) (9 : Nat) (Value.slice o20 n21 n22)) w50 fun v51 w52 => isStr v51 fun x53 => callV Tryd.prog (13 : Nat) [Value.string x53] w52 fun v54 w55 => isTup v54 fun l56 => rd l56[(0 : Nat)]? fun v57 => isTup v54 fun l58 => rd l58[(1 : Nat)]? fun v59 => isK IntKind.i64 v59 fun i60 => allocC w55 (Obj.cells #[Value.int IntKind.u16 (0 : Int), Value.bool false, Value.int IntKind.u16 (0 : Int), Value.int IntKind.u32 (0 : Int), Value.slice none (0 : Nat) (0 : Nat)] (35 : Nat)) fun n61 w62 => rd (gd (List.length (Array.toList (Value.cells v57)) == (5 : Nat))) fun _x => stC w62 { block := n61, off := (0 : Nat) : Addr } (cellsOf true v57) fun w63 => br t2 (runs Tryd.prog (convert (25 : Nat) (9 : Nat) (Value.slice o27 n28 n29)) w63 fun v64 w65 => isStr v64 fun x66 => br (decide (x66 = x37)) (br (decide (i32 = i40)) (br (decide (i47 = i60)) (rd (World.cell? w65 { block := n48, off := (0 : Nat) : Addr }) fun v67 => isK IntKind.u16 v67 fun i68 => rd (World.cell? w65 { block := n61, off := (0 : Nat) : Addr }) fun v69 => isK IntKind.u16 v69 fun i70 => br (decide (i68 = i70)) (rd (World.cell? w65 { block := n48, off := (1 : Nat) : Addr }) fun v71 => isB v71 fun t72 => rd (World.cell? w65 { block := n61, off := (1 : Nat) : Addr }) fun v73 => isB v73 fun t74 => br (decide (t72 = t74)) (rd (World.cell? w65 { block := n48, off := (2 : Nat) : Addr }) fun v75 => isK IntKind.u16 v75 fun i76 => rd (World.cell? w65 { block := n61, off := (2 : Nat) : Addr }) fun v77 => isK IntKind.u16 v77 fun i78 => br (decide (i76 = i78)) (rd (World.cell? w65 { block := n48, off := (3 : Nat) : Addr }) fun v79 => isK IntKind.u32 v79 fun i80 => rd (World.cell? w65 { block := n61, off := (3 : Nat) : Addr }) fun v81 => isK IntKind.u32 v81 fun i82 => br (decide (i80 = i82)) (rd (World.cell? w65 { block := n48, off := (4 : Nat) : Addr }) fun v83 => isSl v83 fun o84 n85 n86 => rd (World.cell? w65 { block := n61, off := (4 : Nat) : Addr }) fun v87 => isSl v87 fun o88 n89 n90 => callV Tryd.prog (14 : Nat) [Value.slice o84 n85 n86, Value.slice o88 n89 n90] w65 fun v91 w92 => isB v91 fun t93 => R (Value.bool t93) w92) (R (Value.bool false) w65)) (R (Value.bool false) w65)) (R (Value.bool false) w65)) (R (Value.bool false) w65)) (R (Value.bool false) w65)) (R (Value.bool false) w65)) (R (Value.bool false) w65)) (R (Value.bool false) w63)) :
  callV Tryd.prog 3 [Value.int IntKind.u16 a, Value.bool b, Value.int IntKind.u16 c, Value.int IntKind.u32 d, Value.slice ep en ec, Value.slice p5p p5n p5c] w R :=
  vc_of hm noHints Tryd.func3 ent3 (by kernel_rfl) h

theorem vc4 (a : Int) (b : Bool) (c : Int) (d : Int) (ep : Option Addr) (en : Nat) (ec : Nat) (p5p : Option Addr) (p5n : Nat) (p5c : Nat) (w : World) (R : Value → World → Prop)
  (h : callV Tryd.prog (8 : Nat) [] w fun v0 w1 => isB v0 fun t2 => callV Tryd.prog (9 : Nat) [Value.slice ep en ec] w1 fun v3 w4 => isSl v3 fun o5 n6 n7 => runs Tryd.prog (Instr.buildSlice (25 : Nat) (0 : Nat) #[]) w4 fun v8 w9 => isSl v8 fun o10 n11 n12 => runs Tryd.prog (Instr.sliceAt (25 : Nat) (Value.slice p5p p5n p5c) none (some (Value.int IntKind.i64 (min (↑p5n : Int) (2000 : Int)))) none) w9 fun v13 w14 => isSl v13 fun o15 n16 n17 => runs Tryd.prog (Builtin.append_ #[(25 : Nat), (25 : Nat)] (25 : Nat) #[Value.slice o10 n11 n12, Value.slice o15 n16 n17]) w14 fun v18 w19 => isSl v18 fun o20 n21 n22 => callV Tryd.prog (10 : Nat) [Value.agg #[Value.int IntKind.u16 a, Value.bool b, Value.int IntKind.u16 c, Value.int IntKind.u32 d, Value.slice o5 n6 n7]] w19 fun v23 w24 => isTup v23 fun l25 => rd l25[(0 : Nat)]? fun v26 => isSl v26 fun o27 n28 n29 => isTup v23 fun l30 => rd l30[(1 : Nat)]? fun v31 => isK IntKind.i64 v31 fun i32 => br (decide (i32 = (0 : Int))) (callV Tryd.prog (12 : Nat) [Value.slice o27 n28 n29] w24 fun v33 w34 => isTup v33 fun l35 => rd l35[(0 : Nat)]? fun v36 => isTup v33 fun l37 => rd l37[(1 : Nat)]? fun v38 => isK IntKind.i64 v38 fun i39 => allocC w34 (Obj.cells #[Value.int IntKind.u16 (0 : Int), Value.bool false, Value.int IntKind.u16 (0 : Int), Value.int IntKind.u32 (0 : Int), Value.slice none (0 : Nat) (0 : Nat)] (32 : Nat)) fun n40 w41 => rd (gd (List.length (Array.toList (Value.cells v36)) == (5 : Nat))) fun _x => stC w41 { block := n40, off := (0 : Nat) : Addr } (cellsOf true v36) fun w42 => br (!decide (i39 = (0 : Int))) (R (Value.bool false) w42) (rd (World.cell? w42 { block := n40, off := (0 : Nat) : Addr }) fun v43 => isK IntKind.u16 v43 fun i44 => br (!decide (i44 = a)) (R (Value.bool false) w42) (rd (World.cell? w42 { block := n40, off := (1 : Nat) : Addr }) fun v45 => isB v45 fun t46 => br (!decide (t46 = b)) (R (Value.bool false) w42) (rd (World.cell? w42 { block := n40, off := (2 : Nat) : Addr }) fun v47 => isK IntKind.u16 v47 fun i48 => br (!decide (i48 = c)) (R (Value.bool false) w42) (rd (World.cell? w42 { block := n40, off := (3 : Nat) : Addr }) fun v49 => isK IntKind.u32 v49 fun i50 => br (!decide (i50 = d)) (R (Value.bool false) w42) (rd (World.cell? w42 { block := n40, off := (4 : Nat) : Addr }) fun v51 => isSl v51 fun o52 n53 n54 => callV Tryd.prog (14 : Nat) [Value.slice o52 n53 n54, Value.slice o5 n6 n7] w42 fun v55 w56 => isB v55 fun t57 => br (!t57) (R (Value.bool false) w56) (br (decide ((1024 : Int) < (↑n28 : Int))) (R (Value.bool false) w56) (callV Tryd.prog (12 : Nat) [Value.slice o20 n21 n22] w56 fun v58 w59 => isTup v58 fun l60 => rd l60[(0 : Nat)]? fun v61 => isTup v58 fun l62 => rd l62[(1 : Nat)]? fun v63 => isK IntKind.i64 v63 fun i64 => allocC w59 (Obj.cells #[Value.int IntKind.u16 (0 : Int), Value.bool false, Value.int IntKind.u16 (0 : Int), Value.int IntKind.u32 (0 : Int), Value.slice none (0 : Nat) (0 : Nat)] (32 : Nat)) fun n65 w66 => rd (gd (List.length (Array.toList (Value.cells v61)) == (5 : Nat))) fun _x => stC w66 { block := n65, off := (0 : Nat) : Addr } (cellsOf true v61) fun w67 => br (!decide (i64 = (0 : Int))) (br t2 (rd (World.cell? w67 { block := n65, off := (4 : Nat) : Addr }) fun v68 => isSl v68 fun o69 n70 n71 => br (decide ((↑n70 : Int) = (0 : Int))) (rd (World.cell? w67 { block := n65, off := (1 : Nat) : Addr }) fun v72 => isB v72 fun t73 => R (Value.bool !t73) w67) (R (Value.bool false) w67)) (R (Value.bool false) w67)) (rd (cellsAt w67 { block := n65, off := (0 : Nat) : Addr } (5 : Nat)) fun l74 => callV Tryd.prog (10 : Nat) [Value.agg (List.toArray l74)] w67 fun v75 w76 => isTup v75 fun l77 => rd l77[(0 : Nat)]? fun v78 => isSl v78 fun o79 n80 n81 => isTup v75 fun l82 => rd l82[(1 : Nat)]? fun v83 => isK IntKind.i64 v83 fun i84 => br t2 (br (decide (i84 = (0 : Int))) (runs Tryd.prog (convert (25 : Nat) (9 : Nat) (Value.slice o79 n80 n81)) w76 fun v85 w86 => isStr v85 fun x87 => runs Tryd.prog (convert (25 : Nat) (9 : Nat) (Value.slice o20 n21 n22)) w86 fun v88 w89 => isStr v88 fun x90 => R (Value.bool (decide (x87 = x90))) w89) (R (Value.bool false) w76)) (R (Value.bool false) w76)))))))))) (callV Tryd.prog (12 : Nat) [Value.slice o20 n21 n22] w24 fun v91 w92 => isTup v91 fun l93 => rd l93[(0 : Nat)]? fun v94 => isTup v91 fun l95 => rd l95[(1 : Nat)]? fun v96 => isK IntKind.i64 v96 fun i97 => allocC w92 (Obj.cells #[Value.int IntKind.u16 (0 : Int), Value.bool false, Value.int IntKind.u16 (0 : Int), Value.int IntKind.u32 (0 : Int), Value.slice none (0 : Nat) (0 : Nat)] (32 : Nat)) fun n98 w99 => rd (gd (List.length (Array.toList (Value.cells v94)) == (5 : Nat))) fun _x => stC w99 { block := n98, off := (0 : Nat) : Addr } (cellsOf true v94) fun w100 => br (!decide (i97 = (0 : Int))) (br t2 (rd (World.cell? w100 { block := n98, off := (4 : Nat) : Addr }) fun v101 => isSl v101 fun o102 n103 n104 => br (decide ((↑n103 : Int) = (0 : Int))) (rd (World.cell? w100 { block := n98, off := (1 : Nat) : Addr }) fun v105 => isB v105 fun t106 => R (Value.bool !t106) w100) (R (Value.bool false) w100)) (R (Value.bool false) w100)) (rd (cellsAt w100 { block := n98, off := (0 : Nat) : Addr } (5 : Nat)) fun l107 => callV Tryd.prog (10 : Nat) [Value.agg (List.toArray l107)] w100 fun v108 w109 => isTup v108 fun l110 => rd l110[(0 : Nat)]? fun v111 => isSl v111 fun o112 n113 n114 => isTup v108 fun l115 => rd l115[(1 : Nat)]? fun v116 => isK IntKind.i64 v116 fun i117 => br t2 (br (decide (i117 = (0 : Int))) (runs Tryd.prog (convert (25 : Nat) (9 : Nat) (Value.slice o112 n113 n114)) w109 fun v118 w119 => isStr v118 fun x120 => runs Tryd.prog (convert (25 : Nat) (9 : Nat) (Value.slice o20 n21 n22)) w119 fun v121 w122 => isStr v121 fun x123 => R (Value.bool (decide (x120 = x123))) w122) (R (Value.bool false) w109)) (R (Value.bool false) w109)))) :
  callV Tryd.prog 4 [Value.int IntKind.u16 a, Value.bool b, Value.int IntKind.u16 c, Value.int IntKind.u32 d, Value.slice ep en ec, Value.slice p5p p5n p5c] w R :=
  vc_of hm noHints Tryd.func4 ent4 (by kernel_rfl) h

end Go.Proofs.YtipikchkbmgloaaDoor
namespace Go.Proofs.YtipikchkbmgloaaDoor
set_option linter.unusedSimpArgs false
set_option linter.unusedVariables false
open Go Go.RowKit VC
variable {w : World}
theorem ChAt.keep {w' : World} {F S : Nat → Prop} {A : Nat} {c : Ch} (h : ChAt w F A c) (f : Fm S w w') (hS : ∀ i, F i → ¬ S i) : ChAt w' F A c := by
  obtain ⟨bl, mk, wv, sv, hs, h1, h2, h3⟩ := h
  exact ⟨bl, mk, wv, sv, hs, h1.keep f fun i _ _ _ hi _ => hS i hi, h2.keep f fun i _ _ _ hi _ => hS i hi, h3⟩
theorem ChAt.lt {F : Nat → Prop} {A : Nat} {c : Ch} (h : ChAt w F A c) : ∀ i, F i → i < w.heap.size := by
  obtain ⟨bl, mk, wv, sv, hs, h1, h2, h3⟩ := h
  exact h1.lt
structure Duo (w0 w : World) (FA FB : Nat → Prop) (A B : Nat) (a b : Ch) : Prop where
  a : ChAt w FA A a
  b : ChAt w FB B b
  dis : ∀ i, FA i → ¬ FB i
  hiA : ∀ i, FA i → w0.heap.size ≤ i
  hiB : ∀ i, FB i → w0.heap.size ≤ i
  fm : Fm none' w0 w
theorem Duo.swap {w0 : World} {FA FB : Nat → Prop} {A B : Nat} {a b : Ch} (h : Duo w0 w FA FB A B a b) : Duo w0 w FB FA B A b a := ⟨h.b, h.a, fun i hb ha => h.dis i ha hb, h.hiB, h.hiA, h.fm⟩
theorem Duo.keep {w0 w' : World} {FA FB : Nat → Prop} {A B : Nat} {a b : Ch} (h : Duo w0 w FA FB A B a b) (f : Fm none' w w') : Duo w0 w' FA FB A B a b := ⟨h.a.keep f fun _ _ => id, h.b.keep f fun _ _ => id, h.dis, h.hiA, h.hiB, h.fm.trans f⟩
theorem Duo.step {w0 w' : World} {FA FB F' : Nat → Prop} {A B : Nat} {a b a' : Ch} (h : Duo w0 w FA FB A B a b) (ha : ChAt w' F' A a') (hF : ∀ i, F' i → FA i ∨ w.heap.size ≤ i) (f : Fm FA w w') : Duo w0 w' F' FB A B a' b := by
  refine ⟨ha, h.b.keep f fun i hb ha => h.dis i ha hb, fun i hi hb => ?_, fun i hi => ?_, h.hiB, h.fm.trans' f fun i hi ha => by have := h.hiA i ha; omega⟩
  · rcases hF i hi with h1 | h1
    · exact h.dis i h1 hb
    · have := h.b.lt i hb; omega
  · rcases hF i hi with h1 | h1
    · exact h.hiA i h1
    · have := h.fm.size; omega
structure Loose (w : World) (FA FB : Nat → Prop) (base : Nat) (q : Option Addr) (e : Nat) (ys : List Int) : Prop where
  own : w.ownsRow base 5 1 (.slice q ys.length e) ys.length (ys.map (Value.int .u8))
  no : ∀ i, (Value.slice q ys.length e).ownBlock = some i → ¬ FA i ∧ ¬ FB i
theorem Loose.bytes {FA FB : Nat → Prop} {base e : Nat} {q : Option Addr} {ys : List Int} (h : Loose w FA FB base q e ys) : BytesAt w q ys := BytesAt.of_own h.own
theorem Loose.cap {FA FB : Nat → Prop} {base e : Nat} {q : Option Addr} {ys : List Int} (h : Loose w FA FB base q e ys) : ys.length ≤ e := own_cap' h.own
theorem Loose.swap {FA FB : Nat → Prop} {base e : Nat} {q : Option Addr} {ys : List Int} (h : Loose w FA FB base q e ys) : Loose w FB FA base q e ys := ⟨h.own, fun i hi => (h.no i hi).symm⟩
theorem Loose.step {w' : World} {FA FB F' : Nat → Prop} {base e : Nat} {q : Option Addr} {ys : List Int} (h : Loose w FA FB base q e ys) (hF : ∀ i, F' i → FA i ∨ w.heap.size ≤ i) (f : Fm FA w w') : Loose w' F' FB base q e ys := by
  refine ⟨f.owns h.own fun i hi => (h.no i hi).1, fun i hi => ⟨fun h' => ?_, (h.no i hi).2⟩⟩
  rcases hF i h' with h1 | h1
  · exact (h.no i hi).1 h1
  · obtain ⟨_, cur, hcur⟩ := own_block h.own hi
    have := lt_of_blk hcur; omega
theorem Loose.keep {w' : World} {FA FB : Nat → Prop} {base e : Nat} {q : Option Addr} {ys : List Int} (h : Loose w FA FB base q e ys) (f : Fm none' w w') : Loose w' FA FB base q e ys := ⟨f.owns h.own fun _ _ => id, h.no⟩
section
variable {w0 : World} {FA FB : Nat → Prop} {A B : Nat} {a b : Ch}
theorem duo_push {m : Msg} {p : Option Addr} {cp : Nat} (h : Duo w0 w FA FB A B a b) (hm : Mok m) (hy : BytesAt w p m.bytes) (hp : ∀ ad, p = some ad → m.bytes ≠ [] → ad.block < w.heap.size) (hl : m.bytes.length ≤ 1000000) :
    callV Tryd.prog 19 [.pointer (some ⟨A, 0, none⟩), .agg (msgC m p cp).toArray] w fun v w' => v = .int .i64 (pushC a m).1 ∧ ∃ F', Duo w0 w' F' FB A B (pushC a m).2 b ∧ (∀ i, F' i → FA i ∨ w.heap.size ≤ i) ∧ Fm FA w w' := by
  refine (push19_c h.a hm hy hp hl).mono ?_
  rintro v w' ⟨hv, hc, hf⟩
  have hF : ∀ i, FNew FA w w' i → FA i ∨ w.heap.size ≤ i := fun i hi => hi.imp id (·.1)
  exact ⟨hv, _, h.step hc hF hf, hF, hf⟩
theorem duo_pack {l : List Msg} {p : Option Addr} {cp now N : Nat} (hH : Halves w0) (h : Duo w0 w FA FB A B a b) (hm : MsgsAt w N p l) (hN : N ≤ w.heap.size) (hok : Msok l) (hll : l.length ≤ 900) (hnow : now < 4294967296) (hsl : a.sent.length < 64) :
    callV Tryd.prog 17 [.pointer (some ⟨A, 0, none⟩), .slice p l.length cp, .int .u32 now] w fun v w' => ∃ q e F', v = .tuple #[.slice q (packC a l now).1.1.length e, .int .i64 (packC a l now).1.2] ∧
      Loose w' F' FB w.heap.size q e (packC a l now).1.1 ∧ Duo w0 w' F' FB A B (packC a l now).2 b ∧ (∀ i, F' i → FA i ∨ w.heap.size ≤ i) ∧ Fm FA w w' := by
  refine (pack17_c (hH.keep h.fm id) h.a hm hN hok hll hnow hsl).mono ?_
  rintro v w' ⟨q, e, F', hv, ho, hno, hc, hF, hf⟩
  refine ⟨q, e, F', hv, ⟨ho, fun i hi => ⟨hno i hi, fun hb => ?_⟩⟩, h.step hc hF hf, hF, hf⟩
  have := (own_block ho hi).1
  have := h.b.lt i hb
  omega
theorem duo_unpack {ys : List Int} {p : Option Addr} {cp now : Nat} (hH : Halves w0) (h : Duo w0 w FA FB A B a b) (hb : BytesAt w p ys) (hy : ∀ y ∈ ys, 0 ≤ y ∧ y < 256) (hl : ys.length ≤ 1000000) (hnc : ys.length ≤ cp) (hnow : now < 4294967296)
    (hsl : a.sent.length ≤ 1000000) (hids : ∀ e ∈ a.sent, e.ids.length ≤ 1000000) :
    callV Tryd.prog 18 [.pointer (some ⟨A, 0, none⟩), .slice p ys.length cp, .int .u32 now] w fun v w' => ∃ q e, v = .tuple #[.slice q (unpackC a ys now).1.1.length e, .int .i64 (unpackC a ys now).1.2] ∧
      OwnMsgs w' w.heap.size (.slice q (unpackC a ys now).1.1.length e) (unpackC a ys now).1.1 ∧ Duo w0 w' FA FB A B (unpackC a ys now).2 b ∧ Fm FA w w' := by
  refine (unpack18_c (hH.keep h.fm id) h.a hb hy hl hnc hnow hsl hids).mono ?_
  rintro v w' ⟨q, e, hv, ho, hc, hf⟩
  exact ⟨q, e, hv, ho, h.step hc (fun i hi => .inl hi) hf, hf⟩
theorem duo_waits (h : Duo w0 w FA FB A B a b) : callV Tryd.prog 20 [.pointer (some ⟨A, 0, none⟩)] w fun v w' => v = .int .i64 a.wait.length ∧ w' = w := by
  obtain ⟨bl, mk, wv, sv, hs, h1, h2, h3⟩ := h.a
  exact waits20_c h1
theorem duo_rtt (h : Duo w0 w FA FB A B a b) : callV Tryd.prog 21 [.pointer (some ⟨A, 0, none⟩)] w fun v w' => v = .int .i64 a.rtt ∧ w' = w := by
  obtain ⟨bl, mk, wv, sv, hs, h1, h2, h3⟩ := h.a
  exact rtt21_c h1
theorem duo_new : callV Tryd.prog 15 [] w fun v w1 => ∃ A, v = .pointer (some ⟨A, 0, none⟩) ∧ callV Tryd.prog 15 [] w1 fun v' w' => ∃ FA FB B, v' = .pointer (some ⟨B, 0, none⟩) ∧ Duo w w' FA FB A B newC newC := by
  refine new15_c.mono ?_
  rintro v w1 ⟨rfl, h1, hf1⟩
  refine ⟨_, rfl, new15_c.mono ?_⟩
  rintro v' w2 ⟨rfl, h2, hf2⟩
  refine ⟨_, _, _, rfl, h1.keep hf2 fun _ _ => id, h2, fun i hi hi' => ?_, fun i hi => ?_, fun i hi => ?_, hf1.trans hf2⟩
  · rcases hi with h | h
    · exact h
    · rcases hi' with h' | h'
      · exact h'
      · omega
  · rcases hi with h | h
    · exact h.elim
    · exact h.1
  · rcases hi with h | h
    · exact h.elim
    · have := hf1.size; omega
end
def shM : Msg := { blank 7 with prov := 3, id := 9 }
def shH : Msg := blank 1
def shA1 : Ch := (pushC newC shM).2
def shX : List Int := (packC shA1 [] 5).1.1
def shA2 : Ch := (packC shA1 [] 5).2
def shB1 : Ch := (unpackC newC shX 7).2
def shB2 : Ch := (unpackC shB1 shX 8).2
def shY : List Int := (packC shB2 [shH] 9).1.1
def shB3 : Ch := (packC shB2 [shH] 9).2
def shA3 : Ch := (unpackC shA2 shY 11).2
theorem sh1 : (pushC newC shM).1 = 0 := by decide +kernel
theorem sh2 : (packC shA1 [] 5).1.2 = 0 := by decide +kernel
theorem sh3 : (unpackC newC shX 7).1 = ([shM], 0) := by decide +kernel
theorem sh4 : (unpackC shB1 shX 8).1.2 = 7 := by decide +kernel
theorem sh5 : (packC shB2 [shH] 9).1.2 = 0 := by decide +kernel
theorem sh6 : (unpackC shA2 shY 11).1 = ([shH], 0) := by decide +kernel
theorem sh7 : shA3.wait.length = 0 ∧ shA3.rtt = 6 := by decide +kernel
theorem sealB_r {x : List Int} (h : ∀ y ∈ x, 0 ≤ y ∧ y < 256) : ∀ y ∈ sealB x, 0 ≤ y ∧ y < 256 := by
  intro y hy
  rcases List.mem_append.1 hy with hy | hy
  · exact h y hy
  · exact beB_r _ _ y hy
theorem encD_r (d : Dg) : (∀ y ∈ (encD d).1, 0 ≤ y ∧ y < 256) ∧ (encD d).1.length ≤ 1024 := by
  unfold encD
  split
  · exact ⟨by simp, by simp⟩
  split
  · exact ⟨by simp, by simp⟩
  split
  · exact ⟨by simp, by simp⟩
  · rename_i h
    refine ⟨sealB_r fun y hy => ?_, Nat.le_of_not_lt h⟩
    rcases List.mem_append.1 hy with hy | hy
    · exact headB_r d y hy
    · exact enc_range _ y hy
theorem packC_r (c : Ch) (l : List Msg) (now : Nat) : (∀ y ∈ (packC c l now).1.1, 0 ≤ y ∧ y < 256) ∧ (packC c l now).1.1.length ≤ 1024 := by
  unfold packC
  split
  · exact ⟨by simp, by simp⟩
  · exact encD_r _
theorem mok_sh : Mok shM ∧ Mok shH := by
  refine ⟨⟨?_, ?_, ?_, ?_, ?_, ?_, ?_, ?_, ?_, ?_, ?_, ?_, ?_, ?_, ?_, ?_, ?_, ?_, ?_, ?_, ?_, ?_, ?_⟩, ⟨?_, ?_, ?_, ?_, ?_, ?_, ?_, ?_, ?_, ?_, ?_, ?_, ?_, ?_, ?_, ?_, ?_, ?_, ?_, ?_, ?_, ?_, ?_⟩⟩
  all_goals first | (unfold I64; decide) | decide | (intro y hy; simp [shM, shH, blank] at hy)
theorem msgs_none_b {w : World} : BytesAt w (none : Option Addr) [] := fun j y h => by simp at h
theorem msok_nil : Msok [] := ⟨by simp, by simp, by simp⟩
theorem msgs_nil (w : World) (N : Nat) (p : Option Addr) : MsgsAt w N p [] := fun j m h => by simp at h
set_option maxRecDepth 20000 in
set_option maxHeartbeats 1000000 in
theorem shown8_c (hH : Halves w) : callV Tryd.prog 8 [] w fun v w' => v = .bool true ∧ Fm none' w w' := by
  refine vc8 w _ ?_
  refine (duo_new (w := w)).mono ?_
  rintro _ w1 ⟨A, rfl, hnew⟩
  simp only [vcs, eqV, nilV, Option.map_some, Nat.mul_one, implies_true, true_and, and_true, and_self]
  refine hnew.mono ?_
  rintro _ w4 ⟨FA, FB, B, rfl, hD⟩
  simp only [Option.isNone_some, vcs, eqV, nilV, Option.map_some, Nat.mul_one, implies_true, true_and, and_true, and_self]
  refine (duo_push (m := shM) (p := none) (cp := 0) hD mok_sh.1 (msgs_none_b) (fun ad e => by cases e) (by decide)).mono ?_
  rintro _ w7 ⟨rfl, F1, hD1, -, -⟩
  rw [sh1]
  simp only [vcs, eqV, nilV, Option.map_some, Nat.mul_one, implies_true, true_and, and_true, and_self]
  change Duo w w7 F1 FB A B shA1 newC at hD1
  refine (duo_pack (l := []) (p := none) (cp := 0) (now := 5) (N := w7.heap.size) hH hD1 (msgs_nil _ _ _) (Nat.le_refl _) msok_nil (by simp) (by omega) (by decide +kernel)).mono ?_
  rintro _ w10 ⟨qx, ex, F2, rfl, hx, hD2, -, -⟩
  rw [sh2]
  change Loose w10 F2 FB w7.heap.size qx ex shX at hx
  change Duo w w10 F2 FB A B shA2 newC at hD2
  simp only [vcs, eqV, nilV, Option.map_some, Nat.mul_one, implies_true, true_and, and_true, and_self, List.getElem?_toArray, List.getElem?_cons_zero, List.getElem?_cons_succ]
  have hxr := packC_r shA1 [] 5
  change (∀ y ∈ shX, 0 ≤ y ∧ y < 256) ∧ shX.length ≤ 1024 at hxr
  rw [show (packC shA1 [] 5).1.1 = shX from rfl]
  refine (duo_unpack (ys := shX) (cp := ex) (now := 7) hH hD2.swap hx.bytes hxr.1 (by omega) hx.cap (by omega) (by simp [newC]) (by simp [newC])).mono ?_
  rintro _ w20 ⟨q1, e1, rfl, ho1, hD3, hf3⟩
  have hx3 := (hx.swap.step (fun i hi => .inl hi) hf3)
  change Duo w w20 FB F2 B A shB1 shA2 at hD3
  rw [sh3] at ho1 ⊢
  simp only [vcs, eqV, nilV, Option.map_some, Nat.mul_one, implies_true, true_and, and_true, and_self, List.getElem?_toArray, List.getElem?_cons_zero, List.getElem?_cons_succ]
  refine (duo_unpack (ys := shX) (cp := ex) (now := 8) hH hD3 hx3.bytes hxr.1 (by omega) hx3.cap (by omega) (by decide +kernel) (by decide +kernel)).mono ?_
  rintro _ w30 ⟨q2, e2, rfl, ho2, hD4, hf4⟩
  change Duo w w30 FB F2 B A shB2 shA2 at hD4
  rw [sh4]
  simp only [vcs, eqV, nilV, Option.map_some, Nat.mul_one, implies_true, true_and, and_true, and_self, List.getElem?_toArray, List.getElem?_cons_zero, List.getElem?_cons_succ]
  refine build_Sg (cs := msgC shH none 0) (by rw [row24]) row53 rfl (by omega) (by omega) rfl fun w40 hb40 hs40 hf40 => ?_
  simp only [vcs, eqV, nilV, Option.map_some, Nat.mul_one, implies_true, true_and, and_true, and_self]
  have hD5 := hD4.keep hf40
  have hmH : MsgsAt w40 w40.heap.size (some ⟨w30.heap.size, 0, none⟩) [shH] := by
    intro j m hj
    match j, hj with
    | 0, hj =>
      simp at hj; subst hj
      exact ⟨_, none, 0, rfl, by show w30.heap.size < _; omega, by rw [addr_add]; exact cells_all hb40 rfl, (msgs_none_b), fun ad e => by cases e⟩
  refine (duo_pack (l := [shH]) (p := some ⟨w30.heap.size, 0, none⟩) (cp := 1) (now := 9) (N := w40.heap.size) hH hD5 hmH (Nat.le_refl _) ⟨by simp [mok_sh.2], by simp [shH, blank], by simp⟩ (by simp) (by omega) (by decide +kernel)).mono ?_
  rintro _ w45 ⟨qy, ey, F3, rfl, hy, hD6, -, hf6⟩
  rw [sh5]
  change Loose w45 F3 F2 w40.heap.size qy ey shY at hy
  change Duo w w45 F3 F2 B A shB3 shA2 at hD6
  simp only [vcs, eqV, nilV, Option.map_some, Nat.mul_one, implies_true, true_and, and_true, and_self, List.getElem?_toArray, List.getElem?_cons_zero, List.getElem?_cons_succ]
  have hyr := packC_r shB2 [shH] 9
  change (∀ y ∈ shY, 0 ≤ y ∧ y < 256) ∧ shY.length ≤ 1024 at hyr
  rw [show (packC shB2 [shH] 9).1.1 = shY from rfl]
  refine (duo_unpack (ys := shY) (cp := ey) (now := 11) hH hD6.swap hy.bytes hyr.1 (by omega) hy.cap (by omega) (by decide +kernel) (by decide +kernel)).mono ?_
  rintro _ w55 ⟨q3, e3, rfl, ho3, hD7, hf7⟩
  change Duo w w55 F2 F3 A B shA3 shB3 at hD7
  rw [sh6]
  simp only [vcs, eqV, nilV, Option.map_some, Nat.mul_one, implies_true, true_and, and_true, and_self, List.getElem?_toArray, List.getElem?_cons_zero, List.getElem?_cons_succ]
  have hFB : ∀ i, FB i → i < w10.heap.size := hD2.b.lt
  have hF2 : ∀ i, F2 i → i < w10.heap.size := hD2.a.lt
  have hb0 : w10.heap.size ≤ w20.heap.size := hf3.size
  have hall : Fm (fun i => FB i ∨ F2 i) w20 w55 := (((hf4.mono fun i _ h => .inl h).trans hf40.none).trans (hf6.mono fun i _ h => .inl h)).trans (hf7.mono fun i _ h => .inr h)
  have ho55 := ho1.keep hall fun i C t _ hb _ h => by
    rcases h with h | h
    · have := hFB i h; omega
    · have := hF2 i h; omega
  obtain ⟨p1, c1, e1', hat⟩ := ho55.at
  cases e1'
  obtain ⟨ad, qm, cm, rfl, -, hcells, -, -⟩ := hat 0 shM rfl
  have hid : w55.cell? (ad.add 8) = some (.int .i64 9) := by
    have := (cellsAt_length hcells).2 8 (.int .i64 9) rfl
    rw [add_add] at this
    rwa [Nat.zero_mul, Nat.zero_add] at this
  have hfin : Fm none' w w55 := hD7.fm
  simp only [decide_true, List.length_cons, List.length_nil, hid, vcs, eqV, nilV, Option.map_some, Nat.mul_one, implies_true, true_and, and_true, and_self]
  refine br_dec (fun _ => ⟨by decide, ?_⟩) (fun h => absurd rfl h)
  refine br_dec (fun _ => ?_) (fun h => absurd rfl h)
  refine (duo_waits hD7).mono ?_
  rintro _ w68 ⟨rfl, rfl⟩
  simp only [vcs, eqV, nilV, Option.map_some, Nat.mul_one, implies_true, true_and, and_true, and_self]
  rw [sh7.1]
  refine br_dec (fun _ => ?_) (fun h => absurd rfl h)
  refine (duo_rtt hD7).mono ?_
  rintro _ w71 ⟨rfl, rfl⟩
  simp only [vcs, eqV, nilV, Option.map_some, Nat.mul_one, implies_true, true_and, and_true, and_self]
  rw [sh7.2]
  exact ⟨rfl, hfin⟩
end Go.Proofs.YtipikchkbmgloaaDoor
namespace Go.Proofs.YtipikchkbmgloaaDoor
set_option linter.unusedSimpArgs false
set_option linter.unusedVariables false
open Go Go.RowKit VC
theorem encD_ok {d : Dg} (h : (encD d).2 = 0) : ¬ (d.any = false ∧ (d.last ≠ 0 ∨ d.bits ≠ 0)) ∧ (encodeM d.list).2 = 0 ∧ (sealB (headB d ++ (encodeM d.list).1)).length ≤ 1024 ∧ (encD d).1 = sealB (headB d ++ (encodeM d.list).1) := by
  unfold encD at h ⊢
  split at h
  · cases h
  · rename_i h1
    rw [if_neg h1]
    split at h
    · rename_i h2; exact absurd h h2
    · rename_i h2
      rw [if_neg h2]
      split at h
      · cases h
      · rename_i h3
        rw [if_neg h3]
        exact ⟨h1, by simpa using h2, by omega, rfl⟩
theorem encD_of {d : Dg} (h1 : ¬ (d.any = false ∧ (d.last ≠ 0 ∨ d.bits ≠ 0))) (h2 : (encodeM d.list).2 = 0) (h3 : (sealB (headB d ++ (encodeM d.list).1)).length ≤ 1024) : encD d = (sealB (headB d ++ (encodeM d.list).1), 0) := by
  unfold encD
  rw [if_neg h1, if_neg (by simpa using h2), if_neg (by omega)]
theorem dec_encD {d : Dg} (hd : Dok d) (hm : Msok d.list) (h : (encD d).2 = 0) : decD (encD d).1 = (d, 0) := by
  obtain ⟨h1, h2, h3, h4⟩ := encD_ok h
  rw [h4]
  obtain ⟨seq, any, last, bits, l⟩ := d
  obtain ⟨hs, hla, hb⟩ := hd
  change seq < 65536 at hs
  change last < 65536 at hla
  change bits < 4294967296 at hb
  obtain ⟨e1, e2, e3, e4⟩ := enc_ok hm h2
  obtain ⟨body, hbody⟩ : ∃ b, b = (encodeM l).1 := ⟨_, rfl⟩
  have hdm : decodeM body = (l, 0) := by rw [hbody, e4]; exact dec_enc e1 e2 e3
  have hbr : ∀ y ∈ body, 0 ≤ y ∧ y < 256 := by rw [hbody]; exact enc_range l
  change (sealB (headB ⟨seq, any, last, bits, l⟩ ++ (encodeM l).1)).length ≤ 1024 at h3
  show decD (sealB (headB ⟨seq, any, last, bits, l⟩ ++ (encodeM l).1)) = _
  rw [← hbody] at h3 ⊢
  obtain ⟨x, hx⟩ : ∃ x, x = headB ⟨seq, any, last, bits, l⟩ ++ body := ⟨_, rfl⟩
  have hxl : x.length = 9 + body.length := by rw [hx, List.length_append, headB_length]
  have hxr : ∀ y ∈ x, 0 ≤ y ∧ y < 256 := by
    intro y hy
    rw [hx] at hy
    exact (List.mem_append.1 hy).elim (headB_r _ y) (hbr y)
  have hcl := crcF_lt x 65535 (by omega) hxr
  rw [← hx] at h3 ⊢
  have hl : (sealB x).length = x.length + 2 := sealB_length x
  have hbo : bodyB (sealB x) = x := by
    unfold bodyB
    rw [hl, Nat.add_sub_cancel]
    unfold sealB
    exact List.take_left' rfl
  have hdr : (sealB x).drop ((sealB x).length - 2) = beB (crcF 65535 x) 2 := by
    rw [hl, Nat.add_sub_cancel]
    unfold sealB
    exact List.drop_left' rfl
  -- the head, read
  obtain ⟨rest, hrest⟩ : ∃ rest, sealB x = beB seq 2 ++ (flagB any ++ (beB last 2 ++ (beB bits 4 ++ rest))) := ⟨body ++ beB (crcF 65535 x) 2, by
    unfold sealB
    generalize beB (crcF 65535 x) 2 = t
    rw [hx]
    simp only [headB, List.append_assoc]⟩
  have l2 := beB_length seq 2
  have lf : (flagB any).length = 1 := rfl
  have ll := beB_length last 2
  have lb := beB_length bits 4
  have t2 : (sealB x).take 2 = beB seq 2 := by rw [hrest]; exact List.take_left' l2
  have t5 : ((sealB x).take 5).drop 3 = beB last 2 := by
    rw [List.drop_take, hrest, ← List.append_assoc, List.drop_left' (by simp [l2, lf])]
    exact List.take_left' ll
  have t9 : ((sealB x).take 9).drop 5 = beB bits 4 := by
    rw [List.drop_take, hrest, ← List.append_assoc, ← List.append_assoc, List.drop_left' (by simp [l2, lf, ll])]
    exact List.take_left' lb
  have hg : (sealB x).getD 2 0 = if any then 1 else 0 := by
    rw [List.getD_eq_getElem?_getD, hrest, List.getElem?_append_right (by omega), l2]
    rfl
  have hx9 : x.drop 9 = body := by rw [hx]; exact List.drop_left' (headB_length _)
  have hany : decide ((sealB x).getD 2 0 = 1) = any := by rw [hg]; cases any <;> rfl
  have hn : numsD (sealB x) = ⟨seq, any, last, bits, []⟩ := by
    unfold numsD
    rw [t2, t5, t9, hany, valB_2 hs, valB_2 hla, valB_4 hb]
  unfold decD
  rw [if_neg (by omega), hdr, valB_2 hcl, hbo, hn, hg, hx9, hdm, if_neg (by simp), if_neg, if_neg (by simp)]
  rintro (h | h | h)
  · omega
  · revert h; cases any <;> decide
  · exact h1 h
theorem beB_val4 {ys : List Int} (hl : ys.length = 4) (hy : ∀ y ∈ ys, 0 ≤ y ∧ y < 256) : beB (valB ys) 4 = ys := by
  match ys, hl with
  | [a, b, c, d], _ =>
    have ha := hy a (by simp)
    have hb := hy b (by simp)
    have hc := hy c (by simp)
    have hd := hy d (by simp)
    simp [beB, List.range_succ, valB]
    omega
theorem encodeM_of {ms : List Msg} (h : ∀ m ∈ ms, Rok m) (h16 : ms.length ≤ 16) (hl : (pack (encBits ms)).length ≤ 1024) : encodeM ms = (pack (encBits ms), 0) := by
  unfold encodeM
  rw [if_pos (List.all_eq_true.2 fun m hm => (h m hm).right), if_neg (by omega)]
theorem enc_decD {ys : List Int} (hy : ∀ y ∈ ys, 0 ≤ y ∧ y < 256) (h : (decD ys).2 = 0) : encD (decD ys).1 = (ys, 0) := by
  unfold decD at h ⊢
  split at h
  · cases h
  rename_i h1
  rw [if_neg h1]
  split at h
  · cases h
  rename_i h2
  rw [if_neg h2]
  split at h
  · cases h
  rename_i h3
  rw [if_neg h3]
  split at h
  · rename_i h4; exact absurd h h4
  rename_i h4
  rw [if_neg h4]
  have h4' : (decodeM ((bodyB ys).drop 9)).2 = 0 := by simpa using h4
  have h2' : valB (ys.drop (ys.length - 2)) = crcF 65535 (bodyB ys) := by simpa using h2
  rw [not_or, not_or] at h3
  obtain ⟨a1, a2, a3⟩ := h3
  have hbl : (bodyB ys).length = ys.length - 2 := by unfold bodyB; rw [List.length_take]; omega
  have hbr : ∀ y ∈ (bodyB ys).drop 9, 0 ≤ y ∧ y < 256 := fun y h => hy y (List.mem_of_mem_take (List.mem_of_mem_drop h))
  obtain ⟨b1, b2, b3, b4, -⟩ := enc_dec hbr (show decodeM ((bodyB ys).drop 9) = ((decodeM ((bodyB ys).drop 9)).1, 0) by rw [← h4'])
  have he := encodeM_of b1 b2 (by rw [b4]; exact b3)
  rw [b4] at he
  obtain ⟨y2, hy2⟩ : ∃ y, ys[2]? = some y := ⟨ys[2]'(by omega), by simp⟩
  have hgd : ys.getD 2 0 = y2 := by rw [List.getD_eq_getElem?_getD, hy2]; rfl
  have hy2r := hy y2 (List.mem_of_getElem? hy2)
  rw [hgd] at a2
  have hfl : flagB (decide (y2 = 1)) = [y2] := by
    have : y2 = 0 ∨ y2 = 1 := by omega
    rcases this with rfl | rfl <;> rfl
  have hhead : headB { numsD ys with list := (decodeM ((bodyB ys).drop 9)).1 } = ys.take 9 := by
    unfold headB numsD
    simp only [hgd]
    rw [beB_val2 (by rw [List.length_take]; omega) (fun y h => hy y (List.mem_of_mem_take h)), hfl, beB_val2 (by rw [List.length_drop, List.length_take]; omega) (fun y h => hy y (List.mem_of_mem_take (List.mem_of_mem_drop h))),
      beB_val4 (by rw [List.length_drop, List.length_take]; omega) (fun y h => hy y (List.mem_of_mem_take (List.mem_of_mem_drop h)))]
    have s1 : ys.take 3 = ys.take 2 ++ [y2] := by rw [List.take_add_one, hy2]; rfl
    have s2 : ys.take 5 = ys.take 3 ++ (ys.take 5).drop 3 := by
      have := List.take_append_drop 3 (ys.take 5)
      rw [List.take_take] at this
      exact this.symm
    have s3 : ys.take 9 = ys.take 5 ++ (ys.take 9).drop 5 := by
      have := List.take_append_drop 5 (ys.take 9)
      rw [List.take_take] at this
      exact this.symm
    rw [← s1, ← s2, ← s3]
  have hx : ys.take 9 ++ (bodyB ys).drop 9 = bodyB ys := by
    have := List.take_append_drop 9 (bodyB ys)
    have e : (bodyB ys).take 9 = ys.take 9 := by unfold bodyB; rw [List.take_take, Nat.min_eq_left (by omega)]
    rw [e] at this
    exact this
  have hseal : sealB (bodyB ys) = ys := by
    unfold sealB
    rw [← h2', beB_val2 (by rw [List.length_drop]; omega) (fun y h => hy y (List.mem_of_mem_drop h))]
    unfold bodyB
    exact List.take_append_drop _ _
  obtain ⟨d, hd⟩ : ∃ d : Dg, d = { numsD ys with list := (decodeM ((bodyB ys).drop 9)).1 } := ⟨_, rfl⟩
  have hdl : d.list = (decodeM ((bodyB ys).drop 9)).1 := by rw [hd]
  have e2 : (encodeM d.list).2 = 0 := by rw [hdl, he]
  have e1 : headB d ++ (encodeM d.list).1 = bodyB ys := by rw [hdl, he, hd, hhead, hx]
  show encD { numsD ys with list := (decodeM ((bodyB ys).drop 9)).1 } = (ys, 0)
  rw [← hd, encD_of (by rw [hd]; exact a3) e2 (by rw [e1, hseal]; omega), e1, hseal]
end Go.Proofs.YtipikchkbmgloaaDoor
namespace Go.Proofs.YtipikchkbmgloaaDoor
set_option linter.unusedSimpArgs false
set_option linter.unusedVariables false
open Go Go.RowKit VC
def encE (l : List Msg) : Int := if (encodeM l).2 ≠ 0 then (encodeM l).2 else if 1024 < (encodeM l).1.length + 11 then 5 else 0
def HeadOk (d : Dg) : Prop := ¬ (d.any = false ∧ (d.last ≠ 0 ∨ d.bits ≠ 0))
theorem encD_snd {d : Dg} (h : HeadOk d) : (encD d).2 = encE d.list := by
  have hl : (sealB (headB d ++ (encodeM d.list).1)).length = (encodeM d.list).1.length + 11 := by rw [sealB_length, List.length_append, headB_length]; omega
  unfold encD encE
  rw [if_neg h, hl]
  split
  · rfl
  · split <;> rfl
def fitL (l : List Msg) : List Msg → Nat
  | [] => 0
  | m :: ms => if encE (l ++ [m]) = 0 then fitL (l ++ [m]) ms + 1 else 0
theorem fitN_L : ∀ (ms : List Msg) (d : Dg), HeadOk d → fitN d ms = fitL d.list ms := by
  intro ms
  induction ms with
  | nil => intro d _; rfl
  | cons m ms ih =>
    intro d h
    have h' : HeadOk { d with list := d.list ++ [m] } := h
    unfold fitN fitL
    rw [encD_snd h', ih _ h']
theorem fitL_le : ∀ (ms l : List Msg), fitL l ms ≤ ms.length := by
  intro ms
  induction ms with
  | nil => intro l; exact Nat.le_refl _
  | cons m ms ih =>
    intro l
    unfold fitL
    split
    · have := ih (l ++ [m]); rw [List.length_cons]; omega
    · omega
theorem fitL_ok : ∀ (ms l : List Msg), encE l = 0 → encE (l ++ ms.take (fitL l ms)) = 0 := by
  intro ms
  induction ms with
  | nil => intro l h; simpa [fitL] using h
  | cons m ms ih =>
    intro l h
    unfold fitL
    split
    · rename_i h'
      rw [List.take_succ_cons]
      have := ih (l ++ [m]) h'
      rwa [List.append_assoc] at this
    · simpa using h
theorem packDg_ok (c : Ch) (l : List Msg) : HeadOk (packDg c l) := by
  unfold HeadOk packDg
  intro h
  have h1 : c.win.any = false := h.1
  have h2 := h.2
  simp only [h1] at h2
  simp at h2
theorem one_len {m : Msg} : (oneBits m).length ≤ 8 * m.bytes.length + 304 := by
  unfold oneBits
  rw [List.length_append, bitsOf_length]
  have := fieldBits_len m
  omega
theorem encB_one (m : Msg) : (encBits [m]).length ≤ 8 * m.bytes.length + 309 := by
  unfold encBits
  rw [List.length_append, bitsOf_length, List.flatMap_cons, List.flatMap_nil, List.append_nil]
  have := one_len (m := m)
  omega
theorem encE_one {m : Msg} (h : Rok m) (hl : m.bytes.length ≤ 900) : encE [m] = 0 := by
  have hb := encB_one m
  have hp := pack_length (encBits [m])
  have he : (pack (encBits [m])).length ≤ 1024 → encodeM [m] = (pack (encBits [m]), 0) := encodeM_of (fun x hx => by rw [List.mem_singleton.1 hx]; exact h) (Nat.le_of_ble_eq_true rfl)
  generalize encBits [m] = B at hb hp he
  generalize pack B = P at hp he
  have hP : P.length ≤ 940 := by omega
  unfold encE
  rw [he (by omega)]
  have h1 : ¬ 1024 < P.length + 11 := by omega
  rw [if_neg (fun h => h rfl), if_neg h1]
theorem encE_nil : encE [] = 0 := by decide +kernel
theorem fitL_pos {m : Msg} {ms : List Msg} (h : Rok m) (hl : m.bytes.length ≤ 900) : 0 < fitL [] (m :: ms) := by
  unfold fitL
  rw [List.nil_append, if_pos (encE_one h hl)]
  omega
theorem packC_nil (c : Ch) (now : Nat) : ∃ ys, packC c [] now = ((ys, 0), { c with sent := c.sent ++ [⟨c.next, now, (c.wait.map (·.1)).take (fitL [] (c.wait.map (·.2)))⟩], next := (c.next + 1) % 65536 }) ∧
    ys = (encD { packDg c [] with list := (c.wait.map (·.2)).take (fitL [] (c.wait.map (·.2))) }).1 ∧ (encD { packDg c [] with list := (c.wait.map (·.2)).take (fitL [] (c.wait.map (·.2))) }).2 = 0 := by
  have h0 : (encD (packDg c [])).2 = 0 := by rw [encD_snd (packDg_ok c [])]; exact encE_nil
  have hf : fitN (packDg c []) (c.wait.map (·.2)) = fitL [] (c.wait.map (·.2)) := fitN_L _ _ (packDg_ok c [])
  refine ⟨_, ?_, rfl, ?_⟩
  · unfold packC
    rw [if_neg (by simpa using h0), hf]
    rfl
  · have := fitL_ok (c.wait.map (·.2)) [] encE_nil
    rw [encD_snd (d := { packDg c [] with list := (c.wait.map (·.2)).take (fitL [] (c.wait.map (·.2))) }) (packDg_ok c [])]
    exact this
theorem dok_pack (c : Ch) (l : List Msg) (hw : Wok c.win) (hn : c.next < 65536) (l' : List Msg) : Dok { packDg c l with list := l' } := by
  refine ⟨hn, ?_, ?_⟩
  · show (if c.win.any = true then c.win.last else 0) < 65536
    split
    · exact hw.last
    · omega
  · show (if c.win.any = true then c.win.bits else 0) < 4294967296
    split
    · exact hw.bits
    · omega
def numbered (own : List Msg) : List (Nat × Msg) := (List.range own.length).zip own
theorem numbered_snd (own : List Msg) : (numbered own).map (·.2) = own := by
  unfold numbered
  rw [← List.unzip_snd, List.unzip_zip_right (by simp)]
theorem numbered_fst (own : List Msg) : (numbered own).map (·.1) = List.range own.length := by
  unfold numbered
  rw [← List.unzip_fst, List.unzip_zip_left (by simp)]
theorem numbered_len (own : List Msg) : (numbered own).length = own.length := by unfold numbered; simp
theorem numbered_snoc (own : List Msg) (m : Msg) : numbered (own ++ [m]) = numbered own ++ [(own.length, m)] := by
  unfold numbered
  rw [List.length_append, List.length_cons, List.length_nil, List.range_succ, List.zip_append (by simp)]
  rfl
def pushedC (own : List Msg) : Ch := { newC with wait := numbered own, pushed := own.length }
theorem push_step {own : List Msg} {m : Msg} (hl : own.length < 64) : pushC (pushedC own) m = if rightM m then (0, pushedC (own ++ [m])) else (1, pushedC own) := by
  unfold pushC
  cases h : rightM m with
  | false => rw [if_pos rfl]; rfl
  | true =>
    have hn : ¬ (pushedC own).wait.length = 64 := by show ¬ (numbered own).length = 64; rw [numbered_len]; omega
    rw [if_neg (by simp), if_neg hn, if_pos rfl]
    simp only [pushedC, numbered_snoc, List.length_append, List.length_cons, List.length_nil]
end Go.Proofs.YtipikchkbmgloaaDoor
namespace Go.Proofs.YtipikchkbmgloaaDoor
set_option linter.unusedSimpArgs false
set_option linter.unusedVariables false
open Go Go.RowKit VC
variable {w : World}
theorem conv_run {q : Option Addr} {n c : Nat} {ys : List Int} {K : Value → World → Prop} (hn : n = ys.length) (h : BytesAt w q ys) (k : K (.string (strOfNums ys)) w) : runs Tryd.prog (convert 25 9 (.slice q n c)) w K :=
  conv_bytes (by rw [row25]) (by rw [row5]) (by rw [row9]) hn (fun j y hj => h j y hj) k
theorem decD_rok {ys : List Int} (hy : ∀ y ∈ ys, 0 ≤ y ∧ y < 256) : (∀ m ∈ (decD ys).1.list, Rok m) ∧ (decD ys).1.list.length ≤ 16 := by
  have hz : (∀ m ∈ dgZ.list, Rok m) ∧ dgZ.list.length ≤ 16 := ⟨by simp [dgZ], by simp [dgZ]⟩
  unfold decD
  split
  · exact hz
  split
  · exact hz
  split
  · exact hz
  split
  · exact hz
  rename_i h
  have hr : decodeM ((bodyB ys).drop 9) = ((decodeM ((bodyB ys).drop 9)).1, 0) := by
    have h' : (decodeM ((bodyB ys).drop 9)).2 = 0 := by simpa using h
    rw [← h']
  have := enc_dec (fun y h => hy y (List.mem_of_mem_take (List.mem_of_mem_drop h))) hr
  exact ⟨this.1, this.2.1⟩
theorem cut_bytes {ys : List Int} {p : Option Addr} {c : Nat} {K : Value → World → Prop} {k : Nat} (hb : BytesAt w p ys) (hnc : ys.length ≤ c) (hk : k ≤ 100000)
    (kk : ∀ q e w', Loose w' none' none' w.heap.size q e (ys.take k) → Fm none' w w' → K (.slice q (ys.take k).length e) w') :
    runs Tryd.prog (Instr.buildSlice 25 0 #[]) w fun v8 w9 => isSl v8 fun o10 n11 n12 => runs Tryd.prog (Instr.sliceAt 25 (.slice p ys.length c) none (some (.int .i64 (min (ys.length : Int) k))) none) w9 fun v13 w14 => isSl v13 fun o15 n16 n17 =>
      runs Tryd.prog (Builtin.append_ #[25, 25] 25 #[.slice o10 n11 n12, .slice o15 n16 n17]) w14 K := by
  refine build_none (by rw [row25]) row5 fun s w9 hs hs9 hf9 => ?_
  obtain ⟨p9, c9, rfl, -⟩ := own_read hs
  simp only [vcs, eqV, nilV, Option.map_some, Nat.mul_one, implies_true, true_and, and_true, and_self]
  obtain ⟨n, hn⟩ : ∃ n, n = min ys.length k := ⟨_, rfl⟩
  rw [show min (ys.length : Int) k = (n : Int) by omega]
  refine sliceAt_hi (by rw [row25]) row5 (by omega) (by omega) ?_
  simp only [vcs, eqV, nilV, Option.map_some, Nat.mul_one, implies_true, true_and, and_true, and_self]
  have hnl : n = (ys.take k).length := by rw [List.length_take]; omega
  have hbt : BytesAt w9 (if c = 0 then p else p.map (·.add 0)) (ys.take k) := ((hb.keep hf9 fun _ _ => id).take k).zero c
  have hbt' := hbt
  refine append_b (ys := ys.take k) (by rw [row25]) row5 rfl hs hnl (fun j y hj => hbt' j y hj) hf9.size (by simp only [maxLen]; omega) (by omega) fun v w19 hv hf hblk => ?_
  obtain ⟨q, e, rfl, -⟩ := own_read hv
  simp only [Nat.zero_add, List.nil_append] at hv ⊢
  rw [hnl] at hv ⊢
  exact kk q e w19 ⟨hv, fun i _ => ⟨id, id⟩⟩ (hf9.trans' hf fun i hi e => by have := (own_block hs e).1; omega)
theorem lay_dg {d : Dg} {q : Option Addr} {c T : Nat} {C : Array Value} {K : Nat → World → Prop} (hC : C.size = 5)
    (k : ∀ D w', w.heap.size ≤ D → w'.heap[D]? = some (.cells #[.int .u16 d.seq, .bool d.any, .int .u16 d.last, .int .u32 d.bits, .slice q d.list.length c] T (0, 0)) → Fm none' w w' → K D w') :
    allocC w (.cells C T (0, 0)) fun n w1 => rd (gd ((dgC d q c).cells.toList.length == 5)) fun _ => stC w1 ⟨n, 0, none⟩ (cellsOf true (dgC d q c)) fun w2 => K n w2 := by
  refine allocC_of fun w1 hb1 hs1 hf1 => ?_
  refine rd_of (v := ()) rfl ?_
  refine stC_all hb1 (by rw [hC]; rfl) (fun v hv => by
    have : v ∈ [Value.int .u16 d.seq, .bool d.any, .int .u16 d.last, .int .u32 d.bits, .slice q d.list.length c] := hv
    simp at this; rcases this with rfl | rfl | rfl | rfl | rfl <;> rfl) fun w2 hb2 hf2 => ?_
  exact k _ w2 (Nat.le_refl _) hb2 (hf1.trans' hf2 fun i hi e => by omega)
end Go.Proofs.YtipikchkbmgloaaDoor
namespace Go.Proofs.YtipikchkbmgloaaDoor
set_option linter.unusedSimpArgs false
set_option linter.unusedVariables false
open Go Go.RowKit VC
variable {w : World}
structure Held (w0 w : World) (F : Nat → Prop) (v : Value) (l : List Msg) : Prop where
  rows : RowMsgs w w0.heap.size w0.heap.size v l
  no : ∀ i, v.ownBlock = some i → ¬ F i
theorem RowMsgs.blk {base N : Nat} {v : Value} {l : List Msg} (h : RowMsgs w base N v l) {i : Nat} (hi : v.ownBlock = some i) : base ≤ i ∧ i < w.heap.size ∧ ∃ C, w.heap[i]? = some (.cells C 53 (0, 0)) := by
  obtain ⟨qs, h1, h2, h3⟩ := h
  obtain ⟨hb, cur, hc⟩ := own_block h2 hi
  exact ⟨hb, lt_of_blk hc, cur, hc⟩
theorem RowMsgs.keepS {w' : World} {base N : Nat} {v : Value} {l : List Msg} {S : Nat → Prop} (h : RowMsgs w base N v l) (f : Fm S w w') (h1 : ∀ i, v.ownBlock = some i → ¬ S i) (h2 : ∀ i, i < N → ¬ S i) : RowMsgs w' base N v l := by
  obtain ⟨qs, a1, a2, a3⟩ := h
  refine ⟨qs, a1, f.owns a2 h1, fun j m q hj hq => ?_⟩
  obtain ⟨b1, b2⟩ := a3 j m q hj hq
  exact ⟨b1.keepN f fun ad e hne => h2 _ (b2 ad e hne), b2⟩
theorem Held.step {w0 w' : World} {F F' : Nat → Prop} {v : Value} {l : List Msg} (h : Held w0 w F v l) (hF : ∀ i, F i → w0.heap.size ≤ i) (hF' : ∀ i, F' i → F i ∨ w.heap.size ≤ i) (f : Fm F w w') : Held w0 w' F' v l := by
  refine ⟨h.rows.keepS f h.no fun i hi hs => by have := hF i hs; omega, fun i hi h' => ?_⟩
  rcases hF' i h' with h1 | h1
  · exact h.no i hi h1
  · have := (h.rows.blk hi).2.1; omega
theorem Held.keep {w0 w' : World} {F : Nat → Prop} {v : Value} {l : List Msg} (h : Held w0 w F v l) (f : Fm none' w w') : Held w0 w' F v l := ⟨h.rows.keepS f (fun _ _ => id) fun _ _ => id, h.no⟩
theorem Held.nil (w0 w : World) (F : Nat → Prop) : Held w0 w F (.slice none 0 0) [] := ⟨RowMsgs.nil _ _ _, fun i hi => by cases hi⟩
theorem Held.sl {w0 : World} {F : Nat → Prop} {v : Value} {l : List Msg} (h : Held w0 w F v l) : ∃ p c, v = .slice p l.length c := rowSl h.rows
theorem Held.at {w0 : World} {F : Nat → Prop} {p : Option Addr} {n c : Nat} {l : List Msg} (h : Held w0 w F (.slice p n c) l) (hs : w0.heap.size ≤ w.heap.size) : MsgsAt w w.heap.size p l := (RowMsgs.at h.rows hs).2
theorem Held.blk {w0 : World} {F : Nat → Prop} {v : Value} {l : List Msg} (h : Held w0 w F v l) {i : Nat} (hi : v.ownBlock = some i) : w0.heap.size ≤ i ∧ ¬ F i := ⟨(h.rows.blk hi).1, h.no i hi⟩
theorem app_msg {w0 : World} {F : Nat → Prop} {p q : Option Addr} {c cq : Nat} {l : List Msg} {m : Msg} {K : Value → World → Prop} (h : Held w0 w F (.slice p l.length c) l) (hF : ∀ i, F i → i < w.heap.size) (hb : BytesAt w q m.bytes) (hq : ∀ ad, q = some ad → m.bytes ≠ [] → ad.block < w0.heap.size)
    (hs : w0.heap.size ≤ w.heap.size) (hl : l.length ≤ 1000)
    (kk : ∀ p' c' w', Held w0 w' F (.slice p' (l ++ [m]).length c') (l ++ [m]) → Fm (fun i => (Value.slice p l.length c).ownBlock = some i) w w' → K (.slice p' (l ++ [m]).length c') w') :
    runs Tryd.prog (Instr.buildSlice 24 1 #[(0, .agg (msgC m q cq).toArray)]) w fun v1 w1 => isSl v1 fun o n c1 => runs Tryd.prog (Builtin.append_ #[24, 24] 24 #[.slice p l.length c, .slice o n c1]) w1 K := by
  obtain ⟨hr, hno⟩ := h
  obtain ⟨qs, hql, ho, hbq⟩ := hr
  refine build_Sg (by rw [row24]) row53 rfl (by omega) (by omega) rfl fun w1 hb1 hs1 hf1 => ?_
  simp only [vcs, eqV, nilV, Option.map_some, Nat.mul_one, implies_true, true_and, and_true, and_self]
  refine append_rS (m := 1) (ys := msgC m q cq) (by rw [row24]) row53 rfl (by omega) (hf1.owns ho fun _ _ => id) rfl msgC_one (fun k y hy => ?_) (Nat.le_trans hs hf1.size) (by simp only [maxLen]; omega) (by omega) fun p' c' w' ho' hf' hblk => ?_
  · exact ⟨_, _, rfl, by rw [Nat.zero_add]; exact cellOf hb1 (by simpa using hy)⟩
  have hlen1 : (l ++ [m]).length = l.length + 1 := by simp
  have hf : Fm (fun i => (Value.slice p l.length c).ownBlock = some i) w w' := hf1.none.trans hf'
  have hpb : ∀ i, (Value.slice p l.length c).ownBlock = some i → w0.heap.size ≤ i := fun i hi => (own_block ho hi).1
  have e1 : ((l ++ [m]).zip (qs ++ [(q, cq)])).flatMap (fun x => msgC x.1 x.2.1 x.2.2) = (l.zip qs).flatMap (fun x => msgC x.1 x.2.1 x.2.2) ++ msgC m q cq := by
    rw [List.zip_append hql.symm, List.flatMap_append]
    simp
  have := kk p' c' w' ⟨⟨qs ++ [(q, cq)], by simp [hql], by rw [hlen1, e1]; exact ho', fun k m' q' hk hq' => ?_⟩, fun i hi hFi => ?_⟩ hf
  · rw [hlen1] at this; exact this
  · have hkl : k < l.length + 1 := by have := (List.getElem?_eq_some_iff.1 hk).1; rw [hlen1] at this; exact this
    by_cases hkj : k < l.length
    · rw [List.getElem?_append_left hkj] at hk
      rw [List.getElem?_append_left (by omega)] at hq'
      obtain ⟨b1, b2⟩ := hbq k m' q' hk hq'
      exact ⟨b1.keepN hf fun ad e hne h => by have := b2 ad e hne; have := hpb _ h; omega, b2⟩
    · have hkk : k = l.length := by omega
      subst hkk
      rw [List.getElem?_append_right (by omega)] at hk
      rw [List.getElem?_append_right (by omega), hql] at hq'
      simp at hk hq'
      subst hk hq'
      exact ⟨hb.keepN hf fun ad e hne h => by have := hq ad e hne; have := hpb _ h; omega, hq⟩
  · rw [hlen1] at hi
    rcases hblk with h | h
    · rw [h] at hi; exact hno i hi hFi
    · rw [h] at hi; cases hi
      have := hF _ hFi
      have := hf1.size
      omega
structure Solo (w0 w : World) (F : Nat → Prop) (A : Nat) (c : Ch) : Prop where
  a : ChAt w F A c
  hi : ∀ i, F i → w0.heap.size ≤ i
  fm : Fm none' w0 w
theorem Solo.step {w0 w' : World} {F F' : Nat → Prop} {A : Nat} {c c' : Ch} (h : Solo w0 w F A c) (ha : ChAt w' F' A c') (hF : ∀ i, F' i → F i ∨ w.heap.size ≤ i) (f : Fm F w w') : Solo w0 w' F' A c' := by
  refine ⟨ha, fun i hi => ?_, h.fm.trans' f fun i hi ha => by have := h.hi i ha; omega⟩
  rcases hF i hi with h1 | h1
  · exact h.hi i h1
  · have := h.fm.size; omega
theorem Solo.keepS {w0 w' : World} {F S : Nat → Prop} {A : Nat} {c : Ch} (h : Solo w0 w F A c) (f : Fm S w w') (hS : ∀ i, S i → w0.heap.size ≤ i ∧ ¬ F i) : Solo w0 w' F A c :=
  ⟨h.a.keep f fun i hi hs => (hS i hs).2 hi, h.hi, h.fm.trans' f fun i hi hs => by have := (hS i hs).1; omega⟩
section
variable {w0 : World} {F : Nat → Prop} {A : Nat} {c : Ch}
theorem solo_new : callV Tryd.prog 15 [] w fun v w' => ∃ F A, v = .pointer (some ⟨A, 0, none⟩) ∧ Solo w w' F A newC := by
  refine new15_c.mono ?_
  rintro v w1 ⟨rfl, h1, hf1⟩
  exact ⟨_, _, rfl, h1, fun i hi => hi.elim (fun h => h.elim) (·.1), hf1⟩
theorem solo_push {m : Msg} {p : Option Addr} {cp : Nat} (h : Solo w0 w F A c) (hm : Mok m) (hy : BytesAt w p m.bytes) (hp : ∀ ad, p = some ad → m.bytes ≠ [] → ad.block < w.heap.size) (hl : m.bytes.length ≤ 1000000) :
    callV Tryd.prog 19 [.pointer (some ⟨A, 0, none⟩), .agg (msgC m p cp).toArray] w fun v w' => v = .int .i64 (pushC c m).1 ∧ ∃ F', Solo w0 w' F' A (pushC c m).2 ∧ (∀ i, F' i → F i ∨ w.heap.size ≤ i) ∧ Fm F w w' := by
  refine (push19_c h.a hm hy hp hl).mono ?_
  rintro v w' ⟨hv, hc, hf⟩
  have hF : ∀ i, FNew F w w' i → F i ∨ w.heap.size ≤ i := fun i hi => hi.imp id (·.1)
  exact ⟨hv, _, h.step hc hF hf, hF, hf⟩
theorem solo_pack {l : List Msg} {p : Option Addr} {cp now N : Nat} (hH : Halves w0) (h : Solo w0 w F A c) (hm : MsgsAt w N p l) (hN : N ≤ w.heap.size) (hok : Msok l) (hll : l.length ≤ 900) (hnow : now < 4294967296) (hsl : c.sent.length < 64) :
    callV Tryd.prog 17 [.pointer (some ⟨A, 0, none⟩), .slice p l.length cp, .int .u32 now] w fun v w' => ∃ q e F', v = .tuple #[.slice q (packC c l now).1.1.length e, .int .i64 (packC c l now).1.2] ∧
      Loose w' F' none' w.heap.size q e (packC c l now).1.1 ∧ Solo w0 w' F' A (packC c l now).2 ∧ (∀ i, F' i → F i ∨ w.heap.size ≤ i) ∧ Fm F w w' := by
  refine (pack17_c (hH.keep h.fm id) h.a hm hN hok hll hnow hsl).mono ?_
  rintro v w' ⟨q, e, F', hv, ho, hno, hc, hF, hf⟩
  exact ⟨q, e, F', hv, ⟨ho, fun i hi => ⟨hno i hi, id⟩⟩, h.step hc hF hf, hF, hf⟩
end
end Go.Proofs.YtipikchkbmgloaaDoor
namespace Go.Proofs.YtipikchkbmgloaaDoor
set_option linter.unusedSimpArgs false
set_option linter.unusedVariables false
open Go VC
theorem vc7 (ap : Option Addr) (an : Nat) (ac : Nat) (b : Int) (w : World) (R : Value → World → Prop)
  (h : callV Tryd.prog (8 : Nat) [] w fun v0 w1 => isB v0 fun t2 => callV Tryd.prog (15 : Nat) [] w1 fun v3 w4 => isP v3 fun o5 => br (Option.isNone o5) (R (Value.bool false) w4) (cutC (fun u6 => loopC (alist [((7 : Nat), Value.slice none (0 : Nat) (0 : Nat)), ((8 : Nat), Value.int IntKind.i64 (0 : Int))]) w4 fun u7 u8 => ∀ (u9 : Nat → Value) (w10 : World), u7 (alist [((7 : Nat), u9 (7 : Nat)), ((8 : Nat), u9 (8 : Nat))]) w10 → isK IntKind.i64 (u9 (8 : Nat)) fun i12 => br (decide (i12 < (↑an : Int))) (isK IntKind.i64 (u9 (8 : Nat)) fun i13 => br (decide (i13 < (20 : Int))) (cutC (fun u14 => isK IntKind.i64 (u9 (8 : Nat)) fun i15 => rd ap fun a16 => ((0 : Int) ≤ i15 ∧ i15 < (↑an : Int)) ∧ rd (cellsAt w10 (Addr.add a16 (Int.toNat i15 * (23 : Nat))) (23 : Nat)) fun l17 => callV Tryd.prog (16 : Nat) [Value.agg (List.toArray l17)] w10 fun v18 w19 => isB v18 fun t20 => br t20 (isK IntKind.i64 (u9 (8 : Nat)) fun i21 => rd ap fun a22 => ((0 : Int) ≤ i21 ∧ i21 < (↑an : Int)) ∧ rd (World.cell? w19 (Addr.add (Addr.add a22 (Int.toNat i21 * (23 : Nat))) (22 : Nat))) fun v23 => isSl v23 fun o24 n25 n26 => br (decide ((↑n25 : Int) ≤ (900 : Int))) (isK IntKind.i64 (u9 (8 : Nat)) fun i27 => rd ap fun a28 => ((0 : Int) ≤ i27 ∧ i27 < (↑an : Int)) ∧ rd (cellsAt w19 (Addr.add a28 (Int.toNat i27 * (23 : Nat))) (23 : Nat)) fun l29 => callV Tryd.prog (19 : Nat) [Value.pointer o5, Value.agg (List.toArray l29)] w19 fun v30 w31 => isK IntKind.i64 v30 fun i32 => br (decide (i32 = (0 : Int))) (isSl (u9 (7 : Nat)) fun o33 n34 n35 => isK IntKind.i64 (u9 (8 : Nat)) fun i36 => rd ap fun a37 => ((0 : Int) ≤ i36 ∧ i36 < (↑an : Int)) ∧ rd (cellsAt w31 (Addr.add a37 (Int.toNat i36 * (23 : Nat))) (23 : Nat)) fun l38 => runs Tryd.prog (Instr.buildSlice (24 : Nat) (1 : Nat) #[((0 : Nat), Value.agg (List.toArray l38))]) w31 fun v39 w40 => isSl v39 fun o41 n42 n43 => runs Tryd.prog (Builtin.append_ #[(24 : Nat), (24 : Nat)] (24 : Nat) #[Value.slice o33 n34 n35, Value.slice o41 n42 n43]) w40 fun v44 w45 => isSl v44 fun o46 n47 n48 => u14 (alist [((7 : Nat), Value.slice o46 n47 n48)]) w45) (u14 (alist [((7 : Nat), u9 (7 : Nat))]) w31)) (u14 (alist [((7 : Nat), u9 (7 : Nat))]) w19)) (u14 (alist [((7 : Nat), u9 (7 : Nat))]) w19)) fun u49 => ∀ (u50 : Nat → Value) (w51 : World), u49 (alist [((7 : Nat), u50 (7 : Nat))]) w51 → isK IntKind.i64 (u9 (8 : Nat)) fun i53 => again u7 u8 (alist [((7 : Nat), u50 (7 : Nat)), ((8 : Nat), Value.int IntKind.i64 (IntKind.wrap IntKind.i64 (i53 + (1 : Int))))]) w51 (alist [((7 : Nat), u9 (7 : Nat)), ((8 : Nat), u9 (8 : Nat))]) w10) (u6 (alist [((7 : Nat), u9 (7 : Nat))]) w10)) (u6 (alist [((7 : Nat), u9 (7 : Nat))]) w10)) fun u54 => ∀ (u55 : Nat → Value) (w56 : World), u54 (alist [((7 : Nat), u55 (7 : Nat))]) w56 → cutC (fun u58 => loopC (alist [((9 : Nat), Value.int IntKind.i64 (0 : Int)), ((10 : Nat), Value.int IntKind.i64 (0 : Int))]) w56 fun u59 u60 => ∀ (u61 : Nat → Value) (w62 : World), u59 (alist [((9 : Nat), u61 (9 : Nat)), ((10 : Nat), u61 (10 : Nat))]) w62 → isK IntKind.i64 (u61 (10 : Nat)) fun i64 => br (decide (i64 < andI IntKind.i64 b (7 : Int))) (cutC (fun u65 => isK IntKind.i64 (u61 (10 : Nat)) fun i66 => callV Tryd.prog (17 : Nat) [Value.pointer o5, Value.slice none (0 : Nat) (0 : Nat), Value.int IntKind.u32 (IntKind.wrap IntKind.u32 i66)] w62 fun v67 w68 => isTup v67 fun l69 => rd l69[(0 : Nat)]? fun v70 => isSl v70 fun o71 n72 n73 => isTup v67 fun l74 => rd l74[(1 : Nat)]? fun v75 => isK IntKind.i64 v75 fun i76 => cutC (fun u77 => callV Tryd.prog (12 : Nat) [Value.slice o71 n72 n73] w68 fun v78 w79 => isTup v78 fun l80 => rd l80[(0 : Nat)]? fun v81 => isTup v78 fun l82 => rd l82[(1 : Nat)]? fun v83 => isK IntKind.i64 v83 fun i84 => allocC w79 (Obj.cells #[Value.int IntKind.u16 (0 : Int), Value.bool false, Value.int IntKind.u16 (0 : Int), Value.int IntKind.u32 (0 : Int), Value.slice none (0 : Nat) (0 : Nat)] (32 : Nat)) fun n85 w86 => rd (gd (List.length (Array.toList (Value.cells v81)) == (5 : Nat))) fun _x => stC w86 { block := n85, off := (0 : Nat) : Addr } (cellsOf true v81) fun w87 => u77 (alist [((13 : Nat), Value.pointer (some { block := n85, off := (0 : Nat) : Addr })), ((14 : Nat), Value.int IntKind.i64 i84)]) w87) fun u88 => ∀ (u89 : Nat → Value) (w90 : World), u88 (alist [((13 : Nat), u89 (13 : Nat)), ((14 : Nat), u89 (14 : Nat))]) w90 → cutC (fun u92 => heldC (World.drew w90) fun u93 => (∀ (w94 : World), u93 w94 → Value.int IntKind.i64 i76 = Value.int IntKind.i64 i76 ∧ w94 = w94) ∧ (∀ (w96 : World), u93 w96 → (Value.bool !decide (i76 = (0 : Int))) = Value.bool !decide (i76 = (0 : Int)) ∧ w96 = w96) ∧ (∀ (w98 : World), u93 w98 → (Value.bool !decide (i76 = (0 : Int))) = Value.bool !decide (i76 = (0 : Int)) ∧ w98 = w98) ∧ br (!decide (i76 = (0 : Int))) ((∀ (w100 : World), u93 w100 → Value.bool true = Value.bool true ∧ w100 = w100) ∧ (∀ (w102 : World), u93 w102 → Value.bool true = Value.bool true ∧ w102 = w102) ∧ (∀ (w104 : World), u93 w104 → Value.bool true = Value.bool true ∧ w104 = w104) ∧ (∀ (w106 : World), u93 w106 → Value.bool true = Value.bool true ∧ w106 = w106) ∧ (∀ (w108 : World), u93 w108 → Value.bool true = Value.bool true ∧ w108 = w108) ∧ (∀ (w110 : World), u93 w110 → Value.bool true = Value.bool true ∧ w110 = w110) ∧ (∀ (w112 : World), u93 w112 → Value.bool true = Value.bool true ∧ w112 = w112) ∧ (∀ (w114 : World), u93 w114 → Value.bool true = Value.bool true ∧ w114 = w114) ∧ (∀ (w116 : World), u93 w116 → Value.bool true = Value.bool true ∧ w116 = w116) ∧ (∀ (w118 : World), u93 w118 → Value.bool true = Value.bool true ∧ w118 = w118) ∧ u93 (World.drew w90) ∧ (∀ (w120 : World), u93 w120 → Value.bool true = Value.bool true ∧ w120 = w120) ∧ (∀ (w122 : World), u93 w122 → Value.bool true = Value.bool true ∧ w122 = w122) ∧ (∀ (w124 : World), u93 w124 → Value.bool true = Value.bool true ∧ w124 = w124) ∧ (∀ (w126 : World), u93 w126 → Value.bool true = Value.bool true ∧ w126 = w126) ∧ u93 (World.drew w90) ∧ (∀ (w128 : World), u93 w128 → Value.bool true = Value.bool true ∧ w128 = w128) ∧ (∀ (w130 : World), u93 w130 → Value.bool true = Value.bool true ∧ w130 = w130) ∧ u93 (World.drew w90) ∧ (∀ (w132 : World), u93 w132 → Value.bool true = Value.bool true ∧ w132 = w132) ∧ R (Value.bool false) (World.drew w90)) ((∀ (w134 : World), u93 w134 → u89 (14 : Nat) = u89 (14 : Nat) ∧ w134 = w134) ∧ isK IntKind.i64 (u89 (14 : Nat)) fun i136 => (∀ (w137 : World), u93 w137 → (Value.bool !decide (i136 = (0 : Int))) = Value.bool !decide (i136 = (0 : Int)) ∧ w137 = w137) ∧ (∀ (w139 : World), u93 w139 → (Value.bool !decide (i136 = (0 : Int))) = Value.bool !decide (i136 = (0 : Int)) ∧ w139 = w139) ∧ (∀ (w141 : World), u93 w141 → (Value.bool !decide (i136 = (0 : Int))) = Value.bool !decide (i136 = (0 : Int)) ∧ w141 = w141) ∧ br (!decide (i136 = (0 : Int))) ((∀ (w143 : World), u93 w143 → Value.bool true = Value.bool true ∧ w143 = w143) ∧ (∀ (w145 : World), u93 w145 → Value.bool true = Value.bool true ∧ w145 = w145) ∧ (∀ (w147 : World), u93 w147 → Value.bool true = Value.bool true ∧ w147 = w147) ∧ (∀ (w149 : World), u93 w149 → Value.bool true = Value.bool true ∧ w149 = w149) ∧ (∀ (w151 : World), u93 w151 → Value.bool true = Value.bool true ∧ w151 = w151) ∧ (∀ (w153 : World), u93 w153 → Value.bool true = Value.bool true ∧ w153 = w153) ∧ (∀ (w155 : World), u93 w155 → Value.bool true = Value.bool true ∧ w155 = w155) ∧ (∀ (w157 : World), u93 w157 → Value.bool true = Value.bool true ∧ w157 = w157) ∧ u93 (World.drew w90) ∧ (∀ (w159 : World), u93 w159 → Value.bool true = Value.bool true ∧ w159 = w159) ∧ (∀ (w161 : World), u93 w161 → Value.bool true = Value.bool true ∧ w161 = w161) ∧ (∀ (w163 : World), u93 w163 → Value.bool true = Value.bool true ∧ w163 = w163) ∧ (∀ (w165 : World), u93 w165 → Value.bool true = Value.bool true ∧ w165 = w165) ∧ u93 (World.drew w90) ∧ (∀ (w167 : World), u93 w167 → Value.bool true = Value.bool true ∧ w167 = w167) ∧ (∀ (w169 : World), u93 w169 → Value.bool true = Value.bool true ∧ w169 = w169) ∧ u93 (World.drew w90) ∧ (∀ (w171 : World), u93 w171 → Value.bool true = Value.bool true ∧ w171 = w171) ∧ R (Value.bool false) (World.drew w90)) (isPtr (u89 (13 : Nat)) fun a173 => (∀ (w174 : World), u93 w174 → isPtr (u89 (13 : Nat)) fun a176 => Value.pointer (some a176) = Value.pointer (some a173) ∧ w174 = w174) ∧ rd (World.cell? (World.drew w90) a173) fun v177 => (∀ (w178 : World), u93 w178 → rd (World.cell? w178 a173) fun v180 => v180 = v177 ∧ w178 = w178) ∧ isK IntKind.u16 v177 fun i181 => (∀ (w182 : World), u93 w182 → Value.int IntKind.i64 (IntKind.wrap IntKind.i64 i181) = Value.int IntKind.i64 (IntKind.wrap IntKind.i64 i181) ∧ w182 = w182) ∧ (∀ (w184 : World), u93 w184 → u61 (10 : Nat) = u61 (10 : Nat) ∧ w184 = w184) ∧ isK IntKind.i64 (u61 (10 : Nat)) fun i186 => (∀ (w187 : World), u93 w187 → (Value.bool !decide (IntKind.wrap IntKind.i64 i181 = i186)) = Value.bool !decide (IntKind.wrap IntKind.i64 i181 = i186) ∧ w187 = w187) ∧ (∀ (w189 : World), u93 w189 → (Value.bool !decide (IntKind.wrap IntKind.i64 i181 = i186)) = Value.bool !decide (IntKind.wrap IntKind.i64 i181 = i186) ∧ w189 = w189) ∧ (∀ (w191 : World), u93 w191 → (Value.bool !decide (IntKind.wrap IntKind.i64 i181 = i186)) = Value.bool !decide (IntKind.wrap IntKind.i64 i181 = i186) ∧ w191 = w191) ∧ br (!decide (IntKind.wrap IntKind.i64 i181 = i186)) ((∀ (w193 : World), u93 w193 → Value.bool true = Value.bool true ∧ w193 = w193) ∧ (∀ (w195 : World), u93 w195 → Value.bool true = Value.bool true ∧ w195 = w195) ∧ (∀ (w197 : World), u93 w197 → Value.bool true = Value.bool true ∧ w197 = w197) ∧ (∀ (w199 : World), u93 w199 → Value.bool true = Value.bool true ∧ w199 = w199) ∧ (∀ (w201 : World), u93 w201 → Value.bool true = Value.bool true ∧ w201 = w201) ∧ (∀ (w203 : World), u93 w203 → Value.bool true = Value.bool true ∧ w203 = w203) ∧ u93 (World.drew w90) ∧ (∀ (w205 : World), u93 w205 → Value.bool true = Value.bool true ∧ w205 = w205) ∧ (∀ (w207 : World), u93 w207 → Value.bool true = Value.bool true ∧ w207 = w207) ∧ (∀ (w209 : World), u93 w209 → Value.bool true = Value.bool true ∧ w209 = w209) ∧ (∀ (w211 : World), u93 w211 → Value.bool true = Value.bool true ∧ w211 = w211) ∧ u93 (World.drew w90) ∧ (∀ (w213 : World), u93 w213 → Value.bool true = Value.bool true ∧ w213 = w213) ∧ (∀ (w215 : World), u93 w215 → Value.bool true = Value.bool true ∧ w215 = w215) ∧ u93 (World.drew w90) ∧ (∀ (w217 : World), u93 w217 → Value.bool true = Value.bool true ∧ w217 = w217) ∧ R (Value.bool false) (World.drew w90)) (isPtr (u89 (13 : Nat)) fun a219 => (∀ (w220 : World), u93 w220 → isPtr (u89 (13 : Nat)) fun a222 => Value.pointer (some (Addr.add a222 (1 : Nat))) = Value.pointer (some (Addr.add a219 (1 : Nat))) ∧ w220 = w220) ∧ rd (World.cell? (World.drew w90) (Addr.add a219 (1 : Nat))) fun v223 => (∀ (w224 : World), u93 w224 → rd (World.cell? w224 (Addr.add a219 (1 : Nat))) fun v226 => v226 = v223 ∧ w224 = w224) ∧ isB v223 fun t227 => (∀ (w228 : World), u93 w228 → Value.bool t227 = Value.bool t227 ∧ w228 = w228) ∧ (∀ (w230 : World), u93 w230 → Value.bool t227 = Value.bool t227 ∧ w230 = w230) ∧ br t227 ((∀ (w232 : World), u93 w232 → Value.bool true = Value.bool true ∧ w232 = w232) ∧ (∀ (w234 : World), u93 w234 → Value.bool true = Value.bool true ∧ w234 = w234) ∧ (∀ (w236 : World), u93 w236 → Value.bool true = Value.bool true ∧ w236 = w236) ∧ (∀ (w238 : World), u93 w238 → Value.bool true = Value.bool true ∧ w238 = w238) ∧ u93 (World.drew w90) ∧ (∀ (w240 : World), u93 w240 → Value.bool true = Value.bool true ∧ w240 = w240) ∧ (∀ (w242 : World), u93 w242 → Value.bool true = Value.bool true ∧ w242 = w242) ∧ (∀ (w244 : World), u93 w244 → Value.bool true = Value.bool true ∧ w244 = w244) ∧ (∀ (w246 : World), u93 w246 → Value.bool true = Value.bool true ∧ w246 = w246) ∧ u93 (World.drew w90) ∧ (∀ (w248 : World), u93 w248 → Value.bool true = Value.bool true ∧ w248 = w248) ∧ (∀ (w250 : World), u93 w250 → Value.bool true = Value.bool true ∧ w250 = w250) ∧ u93 (World.drew w90) ∧ (∀ (w252 : World), u93 w252 → Value.bool true = Value.bool true ∧ w252 = w252) ∧ R (Value.bool false) (World.drew w90)) (isPtr (u89 (13 : Nat)) fun a254 => (∀ (w255 : World), u93 w255 → isPtr (u89 (13 : Nat)) fun a257 => Value.pointer (some (Addr.add a257 (4 : Nat))) = Value.pointer (some (Addr.add a254 (4 : Nat))) ∧ w255 = w255) ∧ rd (World.cell? (World.drew w90) (Addr.add a254 (4 : Nat))) fun v258 => (∀ (w259 : World), u93 w259 → rd (World.cell? w259 (Addr.add a254 (4 : Nat))) fun v261 => v261 = v258 ∧ w259 = w259) ∧ isSl v258 fun o262 n263 n264 => (∀ (w265 : World), u93 w265 → Value.int IntKind.i64 (↑n263 : Int) = Value.int IntKind.i64 (↑n263 : Int) ∧ w265 = w265) ∧ (∀ (w267 : World), u93 w267 → u55 (7 : Nat) = u55 (7 : Nat) ∧ w267 = w267) ∧ isSl (u55 (7 : Nat)) fun o269 n270 n271 => (∀ (w272 : World), u93 w272 → Value.int IntKind.i64 (↑n270 : Int) = Value.int IntKind.i64 (↑n270 : Int) ∧ w272 = w272) ∧ (∀ (w274 : World), u93 w274 → Value.bool (decide ((↑n270 : Int) < (↑n263 : Int))) = Value.bool (decide ((↑n270 : Int) < (↑n263 : Int))) ∧ w274 = w274) ∧ (∀ (w276 : World), u93 w276 → Value.bool (decide ((↑n270 : Int) < (↑n263 : Int))) = Value.bool (decide ((↑n270 : Int) < (↑n263 : Int))) ∧ w276 = w276) ∧ (∀ (w278 : World), u93 w278 → Value.bool (decide ((↑n270 : Int) < (↑n263 : Int))) = Value.bool (decide ((↑n270 : Int) < (↑n263 : Int))) ∧ w278 = w278) ∧ br (decide ((↑n270 : Int) < (↑n263 : Int))) ((∀ (w280 : World), u93 w280 → Value.bool true = Value.bool true ∧ w280 = w280) ∧ (∀ (w282 : World), u93 w282 → Value.bool true = Value.bool true ∧ w282 = w282) ∧ u93 (World.drew w90) ∧ (∀ (w284 : World), u93 w284 → Value.bool true = Value.bool true ∧ w284 = w284) ∧ (∀ (w286 : World), u93 w286 → Value.bool true = Value.bool true ∧ w286 = w286) ∧ (∀ (w288 : World), u93 w288 → Value.bool true = Value.bool true ∧ w288 = w288) ∧ (∀ (w290 : World), u93 w290 → Value.bool true = Value.bool true ∧ w290 = w290) ∧ u93 (World.drew w90) ∧ (∀ (w292 : World), u93 w292 → Value.bool true = Value.bool true ∧ w292 = w292) ∧ (∀ (w294 : World), u93 w294 → Value.bool true = Value.bool true ∧ w294 = w294) ∧ u93 (World.drew w90) ∧ (∀ (w296 : World), u93 w296 → Value.bool true = Value.bool true ∧ w296 = w296) ∧ R (Value.bool false) (World.drew w90)) ((∀ (w298 : World), u93 w298 → u55 (7 : Nat) = u55 (7 : Nat) ∧ w298 = w298) ∧ isSl (u55 (7 : Nat)) fun o300 n301 n302 => (∀ (w303 : World), u93 w303 → Value.int IntKind.i64 (↑n301 : Int) = Value.int IntKind.i64 (↑n301 : Int) ∧ w303 = w303) ∧ (∀ (w305 : World), u93 w305 → Value.bool (decide ((0 : Int) < (↑n301 : Int))) = Value.bool (decide ((0 : Int) < (↑n301 : Int))) ∧ w305 = w305) ∧ (∀ (w307 : World), u93 w307 → Value.bool (decide ((0 : Int) < (↑n301 : Int))) = Value.bool (decide ((0 : Int) < (↑n301 : Int))) ∧ w307 = w307) ∧ br (decide ((0 : Int) < (↑n301 : Int))) (isPtr (u89 (13 : Nat)) fun a309 => (∀ (w310 : World), u93 w310 → isPtr (u89 (13 : Nat)) fun a312 => Value.pointer (some (Addr.add a312 (4 : Nat))) = Value.pointer (some (Addr.add a309 (4 : Nat))) ∧ w310 = w310) ∧ rd (World.cell? (World.drew w90) (Addr.add a309 (4 : Nat))) fun v313 => (∀ (w314 : World), u93 w314 → rd (World.cell? w314 (Addr.add a309 (4 : Nat))) fun v316 => v316 = v313 ∧ w314 = w314) ∧ isSl v313 fun o317 n318 n319 => (∀ (w320 : World), u93 w320 → Value.int IntKind.i64 (↑n318 : Int) = Value.int IntKind.i64 (↑n318 : Int) ∧ w320 = w320) ∧ (∀ (w322 : World), u93 w322 → Value.bool (decide ((↑n318 : Int) = (0 : Int))) = Value.bool (decide ((↑n318 : Int) = (0 : Int))) ∧ w322 = w322) ∧ (∀ (w324 : World), u93 w324 → Value.bool (decide ((↑n318 : Int) = (0 : Int))) = Value.bool (decide ((↑n318 : Int) = (0 : Int))) ∧ w324 = w324) ∧ (∀ (w326 : World), u93 w326 → Value.bool (decide ((↑n318 : Int) = (0 : Int))) = Value.bool (decide ((↑n318 : Int) = (0 : Int))) ∧ w326 = w326) ∧ (∀ (w328 : World), u93 w328 → Value.bool (decide ((↑n318 : Int) = (0 : Int))) = Value.bool (decide ((↑n318 : Int) = (0 : Int))) ∧ w328 = w328) ∧ br (decide ((↑n318 : Int) = (0 : Int))) (u93 (World.drew w90) ∧ (∀ (w330 : World), u93 w330 → Value.bool true = Value.bool true ∧ w330 = w330) ∧ (∀ (w332 : World), u93 w332 → Value.bool true = Value.bool true ∧ w332 = w332) ∧ (∀ (w334 : World), u93 w334 → Value.bool true = Value.bool true ∧ w334 = w334) ∧ (∀ (w336 : World), u93 w336 → Value.bool true = Value.bool true ∧ w336 = w336) ∧ u93 (World.drew w90) ∧ (∀ (w338 : World), u93 w338 → Value.bool true = Value.bool true ∧ w338 = w338) ∧ (∀ (w340 : World), u93 w340 → Value.bool true = Value.bool true ∧ w340 = w340) ∧ u93 (World.drew w90) ∧ (∀ (w342 : World), u93 w342 → Value.bool true = Value.bool true ∧ w342 = w342) ∧ R (Value.bool false) (World.drew w90)) (isPtr (u89 (13 : Nat)) fun a344 => (∀ (w345 : World), u93 w345 → isPtr (u89 (13 : Nat)) fun a347 => Value.pointer (some (Addr.add a347 (4 : Nat))) = Value.pointer (some (Addr.add a344 (4 : Nat))) ∧ w345 = w345) ∧ rd (World.cell? (World.drew w90) (Addr.add a344 (4 : Nat))) fun v348 => (∀ (w349 : World), u93 w349 → rd (World.cell? w349 (Addr.add a344 (4 : Nat))) fun v351 => v351 = v348 ∧ w349 = w349) ∧ isSl v348 fun o352 n353 n354 => (∀ (w355 : World), u93 w355 → u55 (7 : Nat) = u55 (7 : Nat) ∧ w355 = w355) ∧ isSl (u55 (7 : Nat)) fun o357 n358 n359 => isPtr (u89 (13 : Nat)) fun a360 => (∀ (w361 : World), u93 w361 → isPtr (u89 (13 : Nat)) fun a363 => Value.pointer (some (Addr.add a363 (4 : Nat))) = Value.pointer (some (Addr.add a360 (4 : Nat))) ∧ w361 = w361) ∧ rd (World.cell? (World.drew w90) (Addr.add a360 (4 : Nat))) fun v364 => (∀ (w365 : World), u93 w365 → rd (World.cell? w365 (Addr.add a360 (4 : Nat))) fun v367 => v367 = v364 ∧ w365 = w365) ∧ isSl v364 fun o368 n369 n370 => (∀ (w371 : World), u93 w371 → Value.int IntKind.i64 (↑n369 : Int) = Value.int IntKind.i64 (↑n369 : Int) ∧ w371 = w371) ∧ runs Tryd.prog (Instr.sliceAt (24 : Nat) (Value.slice o357 n358 n359) none (some (Value.int IntKind.i64 (↑n369 : Int))) none) (World.drew w90) fun v373 w374 => (∀ (w375 : World), u93 w375 → runs Tryd.prog (Instr.sliceAt (24 : Nat) (Value.slice o357 n358 n359) none (some (Value.int IntKind.i64 (↑n369 : Int))) none) w375 fun v377 w378 => v377 = v373 ∧ w378 = w375) ∧ isSl v373 fun o379 n380 n381 => callV Tryd.prog (14 : Nat) [Value.slice o352 n353 n354, Value.slice o379 n380 n381] (World.drew w90) fun v382 w383 => isB v382 fun t384 => u93 w383 ∧ (∀ (w385 : World), u93 w385 → (Value.bool !t384) = Value.bool !t384 ∧ w385 = w385) ∧ (∀ (w387 : World), u93 w387 → (Value.bool !t384) = Value.bool !t384 ∧ w387 = w387) ∧ (∀ (w389 : World), u93 w389 → (Value.bool !t384) = Value.bool !t384 ∧ w389 = w389) ∧ br (!t384) ((∀ (w391 : World), u93 w391 → Value.bool true = Value.bool true ∧ w391 = w391) ∧ (∀ (w393 : World), u93 w393 → Value.bool true = Value.bool true ∧ w393 = w393) ∧ u93 w383 ∧ (∀ (w395 : World), u93 w395 → Value.bool true = Value.bool true ∧ w395 = w395) ∧ (∀ (w397 : World), u93 w397 → Value.bool true = Value.bool true ∧ w397 = w397) ∧ u93 w383 ∧ (∀ (w399 : World), u93 w399 → Value.bool true = Value.bool true ∧ w399 = w399) ∧ R (Value.bool false) w383) ((∀ (w401 : World), u93 w401 → u61 (10 : Nat) = u61 (10 : Nat) ∧ w401 = w401) ∧ isK IntKind.i64 (u61 (10 : Nat)) fun i403 => (∀ (w404 : World), u93 w404 → Value.bool (decide ((0 : Int) < i403)) = Value.bool (decide ((0 : Int) < i403)) ∧ w404 = w404) ∧ (∀ (w406 : World), u93 w406 → Value.bool (decide ((0 : Int) < i403)) = Value.bool (decide ((0 : Int) < i403)) ∧ w406 = w406) ∧ br (decide ((0 : Int) < i403)) (isPtr (u89 (13 : Nat)) fun a408 => (∀ (w409 : World), u93 w409 → isPtr (u89 (13 : Nat)) fun a411 => Value.pointer (some (Addr.add a411 (4 : Nat))) = Value.pointer (some (Addr.add a408 (4 : Nat))) ∧ w409 = w409) ∧ rd (World.cell? w383 (Addr.add a408 (4 : Nat))) fun v412 => (∀ (w413 : World), u93 w413 → rd (World.cell? w413 (Addr.add a408 (4 : Nat))) fun v415 => v415 = v412 ∧ w413 = w413) ∧ isSl v412 fun o416 n417 n418 => (∀ (w419 : World), u93 w419 → Value.int IntKind.i64 (↑n417 : Int) = Value.int IntKind.i64 (↑n417 : Int) ∧ w419 = w419) ∧ (∀ (w421 : World), u93 w421 → u61 (9 : Nat) = u61 (9 : Nat) ∧ w421 = w421) ∧ isK IntKind.i64 (u61 (9 : Nat)) fun i423 => (∀ (w424 : World), u93 w424 → (Value.bool !decide ((↑n417 : Int) = i423)) = Value.bool !decide ((↑n417 : Int) = i423) ∧ w424 = w424) ∧ (∀ (w426 : World), u93 w426 → (Value.bool !decide ((↑n417 : Int) = i423)) = Value.bool !decide ((↑n417 : Int) = i423) ∧ w426 = w426) ∧ (∀ (w428 : World), u93 w428 → (Value.bool !decide ((↑n417 : Int) = i423)) = Value.bool !decide ((↑n417 : Int) = i423) ∧ w428 = w428) ∧ (∀ (w430 : World), u93 w430 → (Value.bool !decide ((↑n417 : Int) = i423)) = Value.bool !decide ((↑n417 : Int) = i423) ∧ w430 = w430) ∧ br (!decide ((↑n417 : Int) = i423)) (u93 w383 ∧ (∀ (w432 : World), u93 w432 → Value.bool true = Value.bool true ∧ w432 = w432) ∧ (∀ (w434 : World), u93 w434 → Value.bool true = Value.bool true ∧ w434 = w434) ∧ u93 w383 ∧ (∀ (w436 : World), u93 w436 → Value.bool true = Value.bool true ∧ w436 = w436) ∧ R (Value.bool false) w383) ((∀ (w438 : World), u93 w438 → Value.pointer o5 = Value.pointer o5 ∧ w438 = w438) ∧ (∀ (w440 : World), u93 w440 → u55 (7 : Nat) = u55 (7 : Nat) ∧ w440 = w440) ∧ isSl (u55 (7 : Nat)) fun o442 n443 n444 => (∀ (w445 : World), u93 w445 → Value.int IntKind.i64 (↑n443 : Int) = Value.int IntKind.i64 (↑n443 : Int) ∧ w445 = w445) ∧ callV Tryd.prog (20 : Nat) [Value.pointer o5] w383 fun v447 w448 => isK IntKind.i64 v447 fun i449 => u93 w448 ∧ (∀ (w450 : World), u93 w450 → (Value.bool !decide (i449 = (↑n443 : Int))) = Value.bool !decide (i449 = (↑n443 : Int)) ∧ w450 = w450) ∧ (∀ (w452 : World), u93 w452 → (Value.bool !decide (i449 = (↑n443 : Int))) = Value.bool !decide (i449 = (↑n443 : Int)) ∧ w452 = w452) ∧ (∀ (w454 : World), u93 w454 → (Value.bool !decide (i449 = (↑n443 : Int))) = Value.bool !decide (i449 = (↑n443 : Int)) ∧ w454 = w454) ∧ br (!decide (i449 = (↑n443 : Int))) (u93 w448 ∧ (∀ (w456 : World), u93 w456 → Value.bool true = Value.bool true ∧ w456 = w456) ∧ R (Value.bool false) w448) ((∀ (w458 : World), u93 w458 → Value.pointer o5 = Value.pointer o5 ∧ w458 = w458) ∧ callV Tryd.prog (21 : Nat) [Value.pointer o5] w448 fun v460 w461 => isK IntKind.i64 v460 fun i462 => u93 w461 ∧ (∀ (w463 : World), u93 w463 → (Value.bool !decide (i462 = (0 : Int))) = Value.bool !decide (i462 = (0 : Int)) ∧ w463 = w463) ∧ (∀ (w465 : World), u93 w465 → (Value.bool !decide (i462 = (0 : Int))) = Value.bool !decide (i462 = (0 : Int)) ∧ w465 = w465) ∧ br (!decide (i462 = (0 : Int))) (R (Value.bool false) w461) (u92 (alist []) w461)))) ((∀ (w467 : World), u93 w467 → Value.bool false = Value.bool false ∧ w467 = w467) ∧ (∀ (w469 : World), u93 w469 → Value.bool false = Value.bool false ∧ w469 = w469) ∧ (∀ (w471 : World), u93 w471 → Value.bool false = Value.bool false ∧ w471 = w471) ∧ (∀ (w473 : World), u93 w473 → Value.pointer o5 = Value.pointer o5 ∧ w473 = w473) ∧ (∀ (w475 : World), u93 w475 → u55 (7 : Nat) = u55 (7 : Nat) ∧ w475 = w475) ∧ isSl (u55 (7 : Nat)) fun o477 n478 n479 => (∀ (w480 : World), u93 w480 → Value.int IntKind.i64 (↑n478 : Int) = Value.int IntKind.i64 (↑n478 : Int) ∧ w480 = w480) ∧ callV Tryd.prog (20 : Nat) [Value.pointer o5] w383 fun v482 w483 => isK IntKind.i64 v482 fun i484 => u93 w483 ∧ (∀ (w485 : World), u93 w485 → (Value.bool !decide (i484 = (↑n478 : Int))) = Value.bool !decide (i484 = (↑n478 : Int)) ∧ w485 = w485) ∧ (∀ (w487 : World), u93 w487 → (Value.bool !decide (i484 = (↑n478 : Int))) = Value.bool !decide (i484 = (↑n478 : Int)) ∧ w487 = w487) ∧ (∀ (w489 : World), u93 w489 → (Value.bool !decide (i484 = (↑n478 : Int))) = Value.bool !decide (i484 = (↑n478 : Int)) ∧ w489 = w489) ∧ br (!decide (i484 = (↑n478 : Int))) (u93 w483 ∧ (∀ (w491 : World), u93 w491 → Value.bool true = Value.bool true ∧ w491 = w491) ∧ R (Value.bool false) w483) ((∀ (w493 : World), u93 w493 → Value.pointer o5 = Value.pointer o5 ∧ w493 = w493) ∧ callV Tryd.prog (21 : Nat) [Value.pointer o5] w483 fun v495 w496 => isK IntKind.i64 v495 fun i497 => u93 w496 ∧ (∀ (w498 : World), u93 w498 → (Value.bool !decide (i497 = (0 : Int))) = Value.bool !decide (i497 = (0 : Int)) ∧ w498 = w498) ∧ (∀ (w500 : World), u93 w500 → (Value.bool !decide (i497 = (0 : Int))) = Value.bool !decide (i497 = (0 : Int)) ∧ w500 = w500) ∧ br (!decide (i497 = (0 : Int))) (R (Value.bool false) w496) (u92 (alist []) w496)))))) ((∀ (w502 : World), u93 w502 → Value.bool false = Value.bool false ∧ w502 = w502) ∧ (∀ (w504 : World), u93 w504 → Value.bool false = Value.bool false ∧ w504 = w504) ∧ (∀ (w506 : World), u93 w506 → Value.bool false = Value.bool false ∧ w506 = w506) ∧ isPtr (u89 (13 : Nat)) fun a508 => (∀ (w509 : World), u93 w509 → isPtr (u89 (13 : Nat)) fun a511 => Value.pointer (some (Addr.add a511 (4 : Nat))) = Value.pointer (some (Addr.add a508 (4 : Nat))) ∧ w509 = w509) ∧ rd (World.cell? (World.drew w90) (Addr.add a508 (4 : Nat))) fun v512 => (∀ (w513 : World), u93 w513 → rd (World.cell? w513 (Addr.add a508 (4 : Nat))) fun v515 => v515 = v512 ∧ w513 = w513) ∧ isSl v512 fun o516 n517 n518 => (∀ (w519 : World), u93 w519 → u55 (7 : Nat) = u55 (7 : Nat) ∧ w519 = w519) ∧ isSl (u55 (7 : Nat)) fun o521 n522 n523 => isPtr (u89 (13 : Nat)) fun a524 => (∀ (w525 : World), u93 w525 → isPtr (u89 (13 : Nat)) fun a527 => Value.pointer (some (Addr.add a527 (4 : Nat))) = Value.pointer (some (Addr.add a524 (4 : Nat))) ∧ w525 = w525) ∧ rd (World.cell? (World.drew w90) (Addr.add a524 (4 : Nat))) fun v528 => (∀ (w529 : World), u93 w529 → rd (World.cell? w529 (Addr.add a524 (4 : Nat))) fun v531 => v531 = v528 ∧ w529 = w529) ∧ isSl v528 fun o532 n533 n534 => (∀ (w535 : World), u93 w535 → Value.int IntKind.i64 (↑n533 : Int) = Value.int IntKind.i64 (↑n533 : Int) ∧ w535 = w535) ∧ runs Tryd.prog (Instr.sliceAt (24 : Nat) (Value.slice o521 n522 n523) none (some (Value.int IntKind.i64 (↑n533 : Int))) none) (World.drew w90) fun v537 w538 => (∀ (w539 : World), u93 w539 → runs Tryd.prog (Instr.sliceAt (24 : Nat) (Value.slice o521 n522 n523) none (some (Value.int IntKind.i64 (↑n533 : Int))) none) w539 fun v541 w542 => v541 = v537 ∧ w542 = w539) ∧ isSl v537 fun o543 n544 n545 => callV Tryd.prog (14 : Nat) [Value.slice o516 n517 n518, Value.slice o543 n544 n545] (World.drew w90) fun v546 w547 => isB v546 fun t548 => u93 w547 ∧ (∀ (w549 : World), u93 w549 → (Value.bool !t548) = Value.bool !t548 ∧ w549 = w549) ∧ (∀ (w551 : World), u93 w551 → (Value.bool !t548) = Value.bool !t548 ∧ w551 = w551) ∧ (∀ (w553 : World), u93 w553 → (Value.bool !t548) = Value.bool !t548 ∧ w553 = w553) ∧ br (!t548) ((∀ (w555 : World), u93 w555 → Value.bool true = Value.bool true ∧ w555 = w555) ∧ (∀ (w557 : World), u93 w557 → Value.bool true = Value.bool true ∧ w557 = w557) ∧ u93 w547 ∧ (∀ (w559 : World), u93 w559 → Value.bool true = Value.bool true ∧ w559 = w559) ∧ (∀ (w561 : World), u93 w561 → Value.bool true = Value.bool true ∧ w561 = w561) ∧ u93 w547 ∧ (∀ (w563 : World), u93 w563 → Value.bool true = Value.bool true ∧ w563 = w563) ∧ R (Value.bool false) w547) ((∀ (w565 : World), u93 w565 → u61 (10 : Nat) = u61 (10 : Nat) ∧ w565 = w565) ∧ isK IntKind.i64 (u61 (10 : Nat)) fun i567 => (∀ (w568 : World), u93 w568 → Value.bool (decide ((0 : Int) < i567)) = Value.bool (decide ((0 : Int) < i567)) ∧ w568 = w568) ∧ (∀ (w570 : World), u93 w570 → Value.bool (decide ((0 : Int) < i567)) = Value.bool (decide ((0 : Int) < i567)) ∧ w570 = w570) ∧ br (decide ((0 : Int) < i567)) (isPtr (u89 (13 : Nat)) fun a572 => (∀ (w573 : World), u93 w573 → isPtr (u89 (13 : Nat)) fun a575 => Value.pointer (some (Addr.add a575 (4 : Nat))) = Value.pointer (some (Addr.add a572 (4 : Nat))) ∧ w573 = w573) ∧ rd (World.cell? w547 (Addr.add a572 (4 : Nat))) fun v576 => (∀ (w577 : World), u93 w577 → rd (World.cell? w577 (Addr.add a572 (4 : Nat))) fun v579 => v579 = v576 ∧ w577 = w577) ∧ isSl v576 fun o580 n581 n582 => (∀ (w583 : World), u93 w583 → Value.int IntKind.i64 (↑n581 : Int) = Value.int IntKind.i64 (↑n581 : Int) ∧ w583 = w583) ∧ (∀ (w585 : World), u93 w585 → u61 (9 : Nat) = u61 (9 : Nat) ∧ w585 = w585) ∧ isK IntKind.i64 (u61 (9 : Nat)) fun i587 => (∀ (w588 : World), u93 w588 → (Value.bool !decide ((↑n581 : Int) = i587)) = Value.bool !decide ((↑n581 : Int) = i587) ∧ w588 = w588) ∧ (∀ (w590 : World), u93 w590 → (Value.bool !decide ((↑n581 : Int) = i587)) = Value.bool !decide ((↑n581 : Int) = i587) ∧ w590 = w590) ∧ (∀ (w592 : World), u93 w592 → (Value.bool !decide ((↑n581 : Int) = i587)) = Value.bool !decide ((↑n581 : Int) = i587) ∧ w592 = w592) ∧ (∀ (w594 : World), u93 w594 → (Value.bool !decide ((↑n581 : Int) = i587)) = Value.bool !decide ((↑n581 : Int) = i587) ∧ w594 = w594) ∧ br (!decide ((↑n581 : Int) = i587)) (u93 w547 ∧ (∀ (w596 : World), u93 w596 → Value.bool true = Value.bool true ∧ w596 = w596) ∧ (∀ (w598 : World), u93 w598 → Value.bool true = Value.bool true ∧ w598 = w598) ∧ u93 w547 ∧ (∀ (w600 : World), u93 w600 → Value.bool true = Value.bool true ∧ w600 = w600) ∧ R (Value.bool false) w547) ((∀ (w602 : World), u93 w602 → Value.pointer o5 = Value.pointer o5 ∧ w602 = w602) ∧ (∀ (w604 : World), u93 w604 → u55 (7 : Nat) = u55 (7 : Nat) ∧ w604 = w604) ∧ isSl (u55 (7 : Nat)) fun o606 n607 n608 => (∀ (w609 : World), u93 w609 → Value.int IntKind.i64 (↑n607 : Int) = Value.int IntKind.i64 (↑n607 : Int) ∧ w609 = w609) ∧ callV Tryd.prog (20 : Nat) [Value.pointer o5] w547 fun v611 w612 => isK IntKind.i64 v611 fun i613 => u93 w612 ∧ (∀ (w614 : World), u93 w614 → (Value.bool !decide (i613 = (↑n607 : Int))) = Value.bool !decide (i613 = (↑n607 : Int)) ∧ w614 = w614) ∧ (∀ (w616 : World), u93 w616 → (Value.bool !decide (i613 = (↑n607 : Int))) = Value.bool !decide (i613 = (↑n607 : Int)) ∧ w616 = w616) ∧ (∀ (w618 : World), u93 w618 → (Value.bool !decide (i613 = (↑n607 : Int))) = Value.bool !decide (i613 = (↑n607 : Int)) ∧ w618 = w618) ∧ br (!decide (i613 = (↑n607 : Int))) (u93 w612 ∧ (∀ (w620 : World), u93 w620 → Value.bool true = Value.bool true ∧ w620 = w620) ∧ R (Value.bool false) w612) ((∀ (w622 : World), u93 w622 → Value.pointer o5 = Value.pointer o5 ∧ w622 = w622) ∧ callV Tryd.prog (21 : Nat) [Value.pointer o5] w612 fun v624 w625 => isK IntKind.i64 v624 fun i626 => u93 w625 ∧ (∀ (w627 : World), u93 w627 → (Value.bool !decide (i626 = (0 : Int))) = Value.bool !decide (i626 = (0 : Int)) ∧ w627 = w627) ∧ (∀ (w629 : World), u93 w629 → (Value.bool !decide (i626 = (0 : Int))) = Value.bool !decide (i626 = (0 : Int)) ∧ w629 = w629) ∧ br (!decide (i626 = (0 : Int))) (R (Value.bool false) w625) (u92 (alist []) w625)))) ((∀ (w631 : World), u93 w631 → Value.bool false = Value.bool false ∧ w631 = w631) ∧ (∀ (w633 : World), u93 w633 → Value.bool false = Value.bool false ∧ w633 = w633) ∧ (∀ (w635 : World), u93 w635 → Value.bool false = Value.bool false ∧ w635 = w635) ∧ (∀ (w637 : World), u93 w637 → Value.pointer o5 = Value.pointer o5 ∧ w637 = w637) ∧ (∀ (w639 : World), u93 w639 → u55 (7 : Nat) = u55 (7 : Nat) ∧ w639 = w639) ∧ isSl (u55 (7 : Nat)) fun o641 n642 n643 => (∀ (w644 : World), u93 w644 → Value.int IntKind.i64 (↑n642 : Int) = Value.int IntKind.i64 (↑n642 : Int) ∧ w644 = w644) ∧ callV Tryd.prog (20 : Nat) [Value.pointer o5] w547 fun v646 w647 => isK IntKind.i64 v646 fun i648 => u93 w647 ∧ (∀ (w649 : World), u93 w649 → (Value.bool !decide (i648 = (↑n642 : Int))) = Value.bool !decide (i648 = (↑n642 : Int)) ∧ w649 = w649) ∧ (∀ (w651 : World), u93 w651 → (Value.bool !decide (i648 = (↑n642 : Int))) = Value.bool !decide (i648 = (↑n642 : Int)) ∧ w651 = w651) ∧ (∀ (w653 : World), u93 w653 → (Value.bool !decide (i648 = (↑n642 : Int))) = Value.bool !decide (i648 = (↑n642 : Int)) ∧ w653 = w653) ∧ br (!decide (i648 = (↑n642 : Int))) (u93 w647 ∧ (∀ (w655 : World), u93 w655 → Value.bool true = Value.bool true ∧ w655 = w655) ∧ R (Value.bool false) w647) ((∀ (w657 : World), u93 w657 → Value.pointer o5 = Value.pointer o5 ∧ w657 = w657) ∧ callV Tryd.prog (21 : Nat) [Value.pointer o5] w647 fun v659 w660 => isK IntKind.i64 v659 fun i661 => u93 w660 ∧ (∀ (w662 : World), u93 w662 → (Value.bool !decide (i661 = (0 : Int))) = Value.bool !decide (i661 = (0 : Int)) ∧ w662 = w662) ∧ (∀ (w664 : World), u93 w664 → (Value.bool !decide (i661 = (0 : Int))) = Value.bool !decide (i661 = (0 : Int)) ∧ w664 = w664) ∧ br (!decide (i661 = (0 : Int))) (R (Value.bool false) w660) (u92 (alist []) w660))))))))))) fun u666 => ∀ (u667 : Nat → Value) (w668 : World), u666 (alist []) w668 → isPtr (u89 (13 : Nat)) fun a670 => rd (World.cell? w668 (Addr.add a670 (4 : Nat))) fun v671 => isSl v671 fun o672 n673 n674 => u65 (alist [((9 : Nat), Value.int IntKind.i64 (↑n673 : Int))]) w668) fun u675 => ∀ (u676 : Nat → Value) (w677 : World), u675 (alist [((9 : Nat), u676 (9 : Nat))]) w677 → isK IntKind.i64 (u61 (10 : Nat)) fun i679 => again u59 u60 (alist [((9 : Nat), u676 (9 : Nat)), ((10 : Nat), Value.int IntKind.i64 (IntKind.wrap IntKind.i64 (i679 + (1 : Int))))]) w677 (alist [((9 : Nat), u61 (9 : Nat)), ((10 : Nat), u61 (10 : Nat))]) w62) (u58 (alist []) w62)) fun u680 => ∀ (u681 : Nat → Value) (w682 : World), u680 (alist []) w682 → R (Value.bool t2) w682)) :
  callV Tryd.prog 7 [Value.slice ap an ac, Value.int IntKind.i64 b] w R :=
  vc_of hm ⟨fun n => match n with | 8 => true | 11 => true | 14 => true | 17 => true | 19 => true | 20 => true | _ => false, fun n => match n with | 17 => .take 0 (.take 1 (.take 2 (.take 3 (.take 4 (.take 5 (.take 6 (.take 7 (.take 8 (.take 9 (.take 10 (.take 11 (.take 12 (.take 13 (.take 14 (.take 15 (.take 16 (.take 17 (.take 18 (.take 19 (.take 20 (.take 21 (.take 22 (.take 23 (.take 24 (.take 25 (.take 26 (.take 27 (.take 28 (.take 29 (.take 30 (.take 31 (.take 32 (.take 33 (.take 34 (.take 35 (.take 36 (.take 37 (.take 38 (.take 39 (.take 40 (.take 41 (.take 42 (.take 43 (.one 44 (.take 45 (.take 46 (.take 47 (.take 48 (.take 49 (.take 50 (.take 51 (.take 52 (.take 53 (.take 54 (.take 55 (.take 56 (.take 57 (.take 58 (.take 59 (.take 61 (.take 62 (.one 60 (.take 63 (.take 64 (.take 65 (.take 66 (.one 67 (.take 68 (.take 69 (.done)))))))))))))))))))))))))))))))))))))))))))))))))))))))))))))))))))))) | _ => .done, fun n => match n with | 11 => [7] | 7 => [7, 8] | 8 => [7] | 20 => [] | 13 => [9, 10] | 14 => [9] | 17 => [13, 14] | 19 => [] | _ => []⟩ Tryd.func7 ent7 (by kernel_rfl) h

end Go.Proofs.YtipikchkbmgloaaDoor
namespace Go.Proofs.YtipikchkbmgloaaDoor
set_option linter.unusedSimpArgs false
set_option linter.unusedVariables false
open Go Go.RowKit VC
variable {w : World}
def okM (m : Msg) : Bool := rightM m && decide (m.bytes.length ≤ 900)
def ownM (ms : List Msg) (i : Nat) : List Msg := (ms.take i).filter okM
theorem ownM_snoc {ms : List Msg} {i : Nat} {m : Msg} (h : ms[i]? = some m) : ownM ms (i + 1) = ownM ms i ++ (if okM m then [m] else []) := by
  unfold ownM
  rw [List.take_add_one, h, List.filter_append]
  cases h : okM m <;> simp [h]
theorem ownM_le (ms : List Msg) (i : Nat) : (ownM ms i).length ≤ i := by
  unfold ownM
  refine Nat.le_trans (List.length_filter_le _ _) ?_
  rw [List.length_take]; omega
theorem ownM_rok {ms : List Msg} (hok : ∀ m ∈ ms, Mok m) {i : Nat} : ∀ m ∈ ownM ms i, Rok m ∧ m.bytes.length ≤ 900 := by
  intro m hm
  obtain ⟨h1, h2⟩ := List.mem_filter.1 hm
  unfold okM at h2
  rw [Bool.and_eq_true, decide_eq_true_eq] at h2
  exact ⟨rok_of (hok m (List.mem_of_mem_take h1)) (by omega) h2.1, h2.2⟩
theorem arg_msg {w0 : World} {p : Option Addr} {ms : List Msg} (hin : In w0 p ms) (hF : Fm none' w0 w) {i : Nat} {m : Msg} (hi : ms[i]? = some m) :
    ∃ ad q cq, p = some ad ∧ cellsAt w (ad.add (i * 23)) 23 = some (msgC m q cq) ∧ w.cell? ((ad.add (i * 23)).add 22) = some (.slice q m.bytes.length cq) ∧ BytesAt w q m.bytes ∧ (∀ ad', q = some ad' → m.bytes ≠ [] → ad'.block < w0.heap.size) := by
  obtain ⟨ad, q, cq, e, hb, hc, hq, hqb⟩ := hin.rd i m hi
  have hc' := hF.cells (by exact id) hc
  exact ⟨ad, q, cq, e, hc', (cellsAt_length hc').2 22 _ rfl, hq.keep hF fun _ _ => id, hqb⟩
theorem and7 (n : Int) : 0 ≤ andI .i64 n 7 ∧ andI .i64 n 7 ≤ 7 := andI_le n 7 (by omega)
def packedC (own : List Msg) (i : Nat) : Ch := { pushedC own with next := i, sent := (List.range i).map fun j => ⟨j, j, (List.range own.length).take (fitL [] own)⟩ }
theorem packed_step {own : List Msg} {i : Nat} (hi : i < 60000) : ∃ ys, packC (packedC own i) [] i = ((ys, 0), packedC own (i + 1)) ∧ ys = (encD ⟨i, false, 0, 0, own.take (fitL [] own)⟩).1 ∧ (encD ⟨i, false, 0, 0, own.take (fitL [] own)⟩).2 = 0 := by
  obtain ⟨ys, h1, h2, h3⟩ := packC_nil (packedC own i) i
  have e1 : (packedC own i).wait.map (·.2) = own := numbered_snd own
  have e2 : (packedC own i).wait.map (·.1) = List.range own.length := numbered_fst own
  rw [e1] at h1 h2 h3
  rw [e2] at h1
  refine ⟨ys, ?_, h2, h3⟩
  rw [h1]
  have e3 : ((packedC own i).next + 1) % 65536 = i + 1 := by show (i + 1) % 65536 = i + 1; omega
  rw [e3]
  simp only [packedC, List.range_succ, List.map_append, List.map_cons, List.map_nil]
set_option maxRecDepth 20000 in
set_option maxHeartbeats 2000000 in
theorem waits7_c {ms : List Msg} {p : Option Addr} {c : Nat} {n : Int} (hH : Halves w) (hin : In w p ms) (hsz : ∀ m ∈ ms, m.bytes.length ≤ 140737488351232) :
    callV Tryd.prog 7 [.slice p ms.length c, .int .i64 n] w fun v w' => v = .bool true ∧ Fm none' w w' := by
  refine vc7 p ms.length c n w _ ?_
  refine (shown8_c hH).mono ?_
  rintro _ w1 ⟨rfl, hf1⟩
  simp only [vcs, eqV, nilV, Option.map_some, Nat.mul_one, implies_true, true_and, and_true, and_self]
  refine (solo_new (w := w1)).mono ?_
  rintro _ w4 ⟨F0, A, rfl, hS0⟩
  simp only [Option.isNone_some, vcs, eqV, nilV, Option.map_some, Nat.mul_one, implies_true, true_and, and_true, and_self]
  have hS0 : Solo w w4 F0 A newC := ⟨hS0.a, fun i hi => Nat.le_trans hf1.size (hS0.hi i hi), hf1.trans hS0.fm⟩
  refine ⟨fun u W => ∃ (own : Option Addr × Nat) (F : Nat → Prop), u 7 = .slice own.1 (ownM ms 20).length own.2 ∧ Solo w W F A (pushedC (ownM ms 20)) ∧ Held w W F (u 7) (ownM ms 20), ?_, ?_⟩
  · refine ⟨fun u W => ∃ (i : Nat) (own : Option Addr × Nat) (F : Nat → Prop), i ≤ ms.length ∧ i ≤ 20 ∧ u 8 = .int .i64 i ∧ u 7 = .slice own.1 (ownM ms i).length own.2 ∧ Solo w W F A (pushedC (ownM ms i)) ∧ Held w W F (u 7) (ownM ms i),
      fun u _ => 20 - (intOf (u 8)).toNat, ⟨0, (none, 0), F0, by omega, by omega, rfl, rfl, hS0, Held.nil _ _ _⟩, ?_⟩
    rintro u w10 ⟨i, ⟨po, co⟩, F, hi, hi20, h8, h7, hS, hh⟩
    change u 8 = _ at h8
    change u 7 = .slice po (ownM ms i).length co at h7
    change Held w w10 F (u 7) (ownM ms i) at hh
    simp only [h8, h7, vcs, eqV, nilV, Option.map_some, Nat.mul_one, implies_true, true_and, and_true, and_self] at hh ⊢
    have fin : (i = ms.length ∨ i = 20) → ∃ (own : Option Addr × Nat) (F : Nat → Prop), alist [(7, .slice po (ownM ms i).length co)] 7 = .slice own.1 (ownM ms 20).length own.2 ∧ Solo w w10 F A (pushedC (ownM ms 20)) ∧ Held w w10 F (alist [(7, .slice po (ownM ms i).length co)] 7) (ownM ms 20) := by
      intro h
      have e : ownM ms 20 = ownM ms i := by
        rcases h with rfl | rfl
        · unfold ownM; rw [List.take_of_length_le (by omega), List.take_of_length_le (Nat.le_refl _)]
        · rfl
      rw [e]
      exact ⟨(po, co), F, rfl, hS, hh⟩
    refine br_dec (fun hlt => ?_) (fun hge => fin (.inl (by omega)))
    refine br_dec (fun hlt20 => ?_) (fun hge => fin (.inr (by omega)))
    obtain ⟨m, hm⟩ : ∃ m, ms[i]? = some m := ⟨ms[i]'(by omega), by simp⟩
    refine ⟨fun u W => ∃ (own : Option Addr × Nat) (F : Nat → Prop), u 7 = .slice own.1 (ownM ms (i + 1)).length own.2 ∧ Solo w W F A (pushedC (ownM ms (i + 1))) ∧ Held w W F (u 7) (ownM ms (i + 1)), ?_, ?_⟩
    · obtain ⟨ad, q, cq, rfl, hcs, hc22, hby, hqb⟩ := arg_msg hin hS.fm hm
      have hmok := hin.ok m (List.mem_of_getElem? hm)
      have hsame : okM m = false → ∀ w', Fm none' w10 w' → ∃ (own : Option Addr × Nat) (F : Nat → Prop), alist [(7, .slice po (ownM ms i).length co)] 7 = .slice own.1 (ownM ms (i + 1)).length own.2 ∧ Solo w w' F A (pushedC (ownM ms (i + 1))) ∧ Held w w' F (alist [(7, .slice po (ownM ms i).length co)] 7) (ownM ms (i + 1)) := by
        intro ho w' hf
        rw [ownM_snoc hm, ho, if_neg (by simp), List.append_nil]
        exact ⟨(po, co), F, rfl, ⟨hS.a.keep hf fun _ _ => id, hS.hi, hS.fm.trans hf⟩, hh.keep hf⟩
      simp only [Int.toNat_natCast, hcs, vcs, eqV, nilV, Option.map_some, Nat.mul_one, implies_true, true_and, and_true, and_self]
      refine ⟨by omega, ?_⟩
      refine (right16_c hmok hby (fun ad' e hne => Nat.lt_of_lt_of_le (hqb ad' e hne) hS.fm.size) (hsz m (List.mem_of_getElem? hm))).mono ?_
      rintro _ w19 ⟨rfl, hf19⟩
      simp only [vcs, eqV, nilV, Option.map_some, Nat.mul_one, implies_true, true_and, and_true, and_self]
      cases hr : rightM m with
      | false =>
        simp only [vcs, eqV, nilV, Option.map_some, Nat.mul_one, implies_true, true_and, and_true, and_self]
        exact hsame (by unfold okM; rw [hr]; rfl) w19 hf19
      | true =>
        have hc22' := hf19.cell hc22 (by exact id)
        have hcs' := hf19.cells (by exact id) hcs
        simp only [hc22', hcs', vcs, eqV, nilV, Option.map_some, Nat.mul_one, implies_true, true_and, and_true, and_self]
        refine ⟨by omega, ?_⟩
        refine br_dec (fun h900 => ?_) (fun h900 => ?_)
        case refine_2 => exact hsame (by unfold okM; rw [hr, decide_eq_false (by omega)]; rfl) w19 hf19
        have hok : okM m = true := by unfold okM; rw [hr, decide_eq_true (by omega)]; rfl
        refine ⟨by omega, ?_⟩
        have hS19 : Solo w w19 F A (pushedC (ownM ms i)) := ⟨hS.a.keep hf19 fun _ _ => id, hS.hi, hS.fm.trans hf19⟩
        have hol := ownM_le ms i
        refine (solo_push hS19 hmok (hby.keep hf19 fun _ _ => id) (fun ad' e hne => Nat.lt_of_lt_of_le (hqb ad' e hne) hS19.fm.size) (by omega)).mono ?_
        rintro _ w31 ⟨rfl, F', hS31, hF', hf31⟩
        have hpush := push_step (own := ownM ms i) (m := m) (by omega)
        rw [hr, if_pos rfl] at hpush
        rw [hpush] at hS31 ⊢
        have hh31 : Held w w31 F' (.slice po (ownM ms i).length co) (ownM ms i) := (hh.keep hf19).step hS.hi hF' hf31
        obtain ⟨ad2, q2, cq2, e2, hcs31, -, hby31, hqb31⟩ := arg_msg hin hS31.fm hm
        cases e2
        simp only [Int.toNat_natCast, hcs31, vcs, eqV, nilV, Option.map_some, Nat.mul_one, implies_true, true_and, and_true, and_self]
        refine br_dec (fun _ => ?_) (fun h => absurd trivial h)
        refine ⟨by omega, ?_⟩
        refine app_msg hh31 hS31.a.lt hby31 hqb31 hS31.fm.size (by omega) fun p' c' w45 hh45 hf45 => ?_
        have e1 : ownM ms (i + 1) = ownM ms i ++ [m] := by rw [ownM_snoc hm, hok, if_pos rfl]
        rw [e1]
        simp only [vcs, eqV, nilV, Option.map_some, Nat.mul_one, implies_true, true_and, and_true, and_self]
        exact ⟨(p', c'), F', rfl, hS31.keepS hf45 fun i h => hh31.blk h, hh45⟩
    · rintro u' w51 ⟨⟨po', co'⟩, F', h7', hS', hh'⟩
      change u' 7 = .slice po' (ownM ms (i + 1)).length co' at h7'
      rw [show IntKind.i64.wrap ((i : Int) + 1) = ((i + 1 : Nat) : Int) from (w64 (by omega)).trans (by omega)]
      refine ⟨⟨i + 1, (po', co'), F', by omega, by omega, rfl, h7', hS', hh'⟩, ?_⟩
      show 20 - ((i + 1 : Nat) : Int).toNat < 20 - (i : Int).toNat
      omega
  rintro u w56 ⟨⟨po, co⟩, F, h7, hS, hh⟩
  change u 7 = .slice po (ownM ms 20).length co at h7
  obtain ⟨O, hO⟩ : ∃ O, O = ownM ms 20 := ⟨_, rfl⟩
  have hOk := ownM_rok (ms := ms) hin.ok (i := 20)
  have hOl := ownM_le ms 20
  rw [← hO] at h7 hS hh hOk hOl
  obtain ⟨k, hk⟩ : ∃ k, k = fitL [] O := ⟨_, rfl⟩
  have hkl : k ≤ O.length := by rw [hk]; exact fitL_le O []
  obtain ⟨N7, hN7⟩ : ∃ N : Nat, andI .i64 n 7 = N := ⟨(andI .i64 n 7).toNat, by have := and7 n; omega⟩
  have hN7l : N7 ≤ 7 := by have := and7 n; omega
  rw [h7] at hh
  simp only [hN7]
  refine ⟨fun _ W => Fm none' w W, ?_, ?_⟩
  · refine ⟨fun u W => ∃ (i : Nat) (F : Nat → Prop), i ≤ N7 ∧ u 10 = .int .i64 i ∧ u 9 = .int .i64 ((if i = 0 then 0 else k : Nat) : Int) ∧ Solo w W F A (packedC O i) ∧ Held w W F (.slice po O.length co) O, fun u _ => N7 - (intOf (u 10)).toNat, ⟨0, F, by omega, rfl, rfl, hS, hh⟩, ?_⟩
    rintro u2 w62 ⟨i, F2, hi, h10, h9, hS2, hh2⟩
    change u2 10 = _ at h10
    change u2 9 = _ at h9
    simp only [h10, h9, vcs, eqV, nilV, Option.map_some, Nat.mul_one, implies_true, true_and, and_true, and_self]
    refine br_dec (fun hlt => ?_) (fun hge => hS2.fm)
    refine ⟨fun u W => ∃ (F : Nat → Prop), u 9 = .int .i64 k ∧ Solo w W F A (packedC O (i + 1)) ∧ Held w W F (.slice po O.length co) O, ?_, ?_⟩
    · rw [show IntKind.u32.wrap (i : Int) = (i : Int) from w32 (by omega)]
      obtain ⟨ys, hp1, hp2, hp3⟩ := packed_step (own := O) (i := i) (by omega)
      refine (solo_pack (l := []) (p := none) (cp := 0) (now := i) (N := w62.heap.size) hH hS2 (msgs_nil _ _ _) (Nat.le_refl _) msok_nil (by simp) (by omega) (by simp [packedC]; omega)).mono ?_
      rintro _ w68 ⟨qx, ex, F3, rfl, hx, hS3, hF3, hf3⟩
      rw [hp1] at hx hS3 ⊢
      simp only [vcs, eqV, nilV, Option.map_some, Nat.mul_one, implies_true, true_and, and_true, and_self, List.getElem?_toArray, List.getElem?_cons_zero, List.getElem?_cons_succ]
      change Loose w68 F3 none' w62.heap.size qx ex ys at hx
      change Solo w w68 F3 A (packedC O (i + 1)) at hS3
      have hh3 := hh2.step hS2.hi hF3 hf3
      have hOt : Msok (O.take k) := ⟨fun m hm => (hOk m (List.mem_of_mem_take hm)).1.ok, fun m hm => by have := (hOk m (List.mem_of_mem_take hm)).2; omega, by rw [List.length_take]; omega⟩
      rw [← hk] at hp2 hp3
      have hdec : decD ys = (⟨i, false, 0, 0, O.take k⟩, 0) := by
        rw [hp2]
        exact dec_encD (d := ⟨i, false, 0, 0, O.take k⟩) ⟨by show i < 65536; omega, by show 0 < 65536; omega, by show 0 < 4294967296; omega⟩ hOt hp3
      have hyr : (∀ y ∈ ys, 0 ≤ y ∧ y < 256) ∧ ys.length ≤ 1024 := by rw [hp2]; exact encD_r _
      refine ⟨fun u W => ∃ D q c, u 13 = .pointer (some ⟨D, 0, none⟩) ∧ u 14 = .int .i64 0 ∧ W.heap[D]? = some (.cells #[.int .u16 i, .bool false, .int .u16 0, .int .u32 0, .slice q (O.take k).length c] 32 (0, 0)) ∧ MsgsAt W W.heap.size q (O.take k) ∧
        Solo w W F3 A (packedC O (i + 1)) ∧ Held w W F3 (.slice po O.length co) O, ?_, ?_⟩
      · refine (decode12_c (c := ex) (hH.keep hS3.fm id) hx.bytes hyr.1 (by omega) hx.cap).mono ?_
        rintro _ w79 ⟨q1, c1, rfl, ho1, hf79⟩
        rw [hdec] at ho1 ⊢
        simp only [vcs, eqV, nilV, Option.map_some, Nat.mul_one, implies_true, true_and, and_true, and_self, List.getElem?_toArray, List.getElem?_cons_zero, List.getElem?_cons_succ]
        refine lay_dg rfl fun D1 w87 hD1 hb87 hf87 => ?_
        obtain ⟨_, _, e1, m1⟩ := (ho1.keep hf87 fun _ _ _ _ _ _ => id).at
        cases e1
        have hf := hf79.trans hf87
        exact ⟨D1, q1, c1, rfl, rfl, hb87, m1, ⟨hS3.a.keep hf fun _ _ => id, hS3.hi, hS3.fm.trans hf⟩, hh3.keep hf⟩
      rintro u3 w90 ⟨D, q, cd, h13, h14, hb90, hm90, hS4, hh4⟩
      change u3 13 = _ at h13
      change u3 14 = _ at h14
      refine ⟨fun _ W => Fm none' w90 W, ?_, ?_⟩
      · have k0 : ∀ W, Fm none' w90.drew W → W.cell? ⟨D, 0, none⟩ = some (.int .u16 i) := fun W hf => cellOf (hf.keep (w := w90.drew) hb90 id) rfl
        have k1 : ∀ W, Fm none' w90.drew W → W.cell? ⟨D, 1, none⟩ = some (.bool false) := fun W hf => cellOf (hf.keep (w := w90.drew) hb90 id) rfl
        have k4 : ∀ W, Fm none' w90.drew W → W.cell? ⟨D, 4, none⟩ = some (.slice q (O.take k).length cd) := fun W hf => cellOf (hf.keep (w := w90.drew) hb90 id) rfl
        have r0 := k0 _ (Fm.refl _ _)
        have r1 := k1 _ (Fm.refl _ _)
        have r4 := k4 _ (Fm.refl _ _)
        have hfr : Fm none' w90.drew w90.drew := Fm.refl _ _
        refine ⟨fun W => Fm none' w90.drew W, Fm.refl _ _, ?_⟩
        have e16 : IntKind.i64.wrap (i : Int) = (i : Int) := w64 (by omega)
        simp (config := { contextual := true }) only [h7, h13, h14, h10, h9, addr_add, Nat.zero_add, r0, r1, r4, k0, k1, k4, e16, decide_true, Bool.not_true, vcs, eqV, nilV, Option.map_some, Nat.mul_one, implies_true, true_and, and_true, and_self]
        have hOt' : (O.take k).length = k := by rw [List.length_take]; omega
        have hrb : ∀ m ∈ O.take k, ∀ y ∈ m.bytes, 0 ≤ y ∧ y < 256 := fun m hm => (hOk m (List.mem_of_mem_take hm)).1.ok.bytes
        have hmO : MsgsAt w90.drew w90.heap.size (if co = 0 then po else po.map (·.add 0)) (O.take k) := ((hh4.at hS4.fm.size).keep (Fm.drew w90) fun _ _ => id).take k co
        have hco : k ≤ co := by
          obtain ⟨qs, _, ho, _⟩ := hh4.rows
          have := own_cap' ho
          omega
        have sl : ∀ (W : World) (K : Value → World → Prop), K (.slice (if co = 0 then po else po.map (·.add 0)) (O.take k).length co) W → runs Tryd.prog (Instr.sliceAt 24 (.slice po O.length co) none (some (.int .i64 ((O.take k).length : Int))) none) W K :=
          fun W K h => sliceAt_hiS (by rw [row24]) row53 (by omega) (by omega) h
        have wts : ∀ W, Fm none' w90.drew W → callV Tryd.prog 20 [.pointer (some ⟨A, 0, none⟩)] W fun v w' => v = .int .i64 O.length ∧ w' = W := fun W hf => by
          obtain ⟨bl, mk, wv, sv, hs, h1, h2, h3⟩ := hS4.a
          have := waits20_c (h1.keep ((Fm.drew w90).trans hf) fun _ _ _ _ _ _ => id)
          have e : (packedC O (i + 1)).wait.length = O.length := numbered_len O
          rw [e] at this
          exact this
        have rtt : ∀ W, Fm none' w90.drew W → callV Tryd.prog 21 [.pointer (some ⟨A, 0, none⟩)] W fun v w' => v = .int .i64 0 ∧ w' = W := fun W hf => by
          obtain ⟨bl, mk, wv, sv, hs, h1, h2, h3⟩ := hS4.a
          exact rtt21_c (h1.keep ((Fm.drew w90).trans hf) fun _ _ _ _ _ _ => id)
        have fin : ∀ W, Fm none' w90.drew W → callV Tryd.prog 20 [.pointer (some ⟨A, 0, none⟩)] W fun v447 w448 => isK .i64 v447 fun i449 => Fm none' w90.drew w448 ∧ br (!decide (i449 = (O.length : Int))) (Fm none' w90.drew w448 ∧ Value.bool false = Value.bool true ∧ Fm none' w w448)
            (callV Tryd.prog 21 [.pointer (some ⟨A, 0, none⟩)] w448 fun v460 w461 => isK .i64 v460 fun i462 => Fm none' w90.drew w461 ∧ br (!decide (i462 = 0)) (Value.bool false = Value.bool true ∧ Fm none' w w461) (Fm none' w90 w461)) := by
          intro W hf
          refine (wts W hf).mono ?_
          rintro _ W ⟨rfl, rfl⟩
          simp only [decide_true, Bool.not_true, vcs, eqV, nilV, Option.map_some, Nat.mul_one, implies_true, true_and, and_true, and_self]
          refine ⟨hf, (rtt W hf).mono ?_⟩
          rintro _ W ⟨rfl, rfl⟩
          simp only [decide_true, Bool.not_true, vcs, eqV, nilV, Option.map_some, Nat.mul_one, implies_true, true_and, and_true, and_self]
          exact ⟨hf, (Fm.drew w90).trans hf⟩
        refine br_dec (fun h => by omega) (fun _ => ?_)
        refine br_dec (fun hne => ?_) (fun he => ?_)
        · have hk0 : 0 < k := by
            rw [hk]
            cases hOc : O with
            | nil => rw [hOc] at hne; simp at hne
            | cons m l =>
              have := hOk m (by rw [hOc]; simp)
              exact fitL_pos this.1 this.2
          refine br_dec (fun h => by omega) (fun _ => ?_)
          refine sl _ _ ⟨fun W _ => sl _ _ ⟨rfl, rfl⟩, ?_⟩
          simp only [vcs, eqV, nilV, Option.map_some, Nat.mul_one, implies_true, true_and, and_true, and_self]
          refine (same14_c (cp := cd) (cq := co) (hm90.keep (Fm.drew w90) fun _ _ => id) hmO hrb hrb (by omega)).mono ?_
          rintro _ w383 ⟨rfl, hf383⟩
          have r4' := k4 _ hf383
          simp only [decide_true, Bool.not_true, r4', vcs, eqV, nilV, Option.map_some, Nat.mul_one, implies_true, true_and, and_true, and_self]
          refine ⟨hf383, ?_⟩
          refine br_dec (fun hi0 => ?_) (fun hi0 => fin _ hf383)
          refine br_ndec (fun h => absurd ?_ h) (fun _ => fin _ hf383)
          rw [if_neg (by omega), hOt']
        · refine sl _ _ ⟨fun W _ => sl _ _ ⟨rfl, rfl⟩, ?_⟩
          simp only [vcs, eqV, nilV, Option.map_some, Nat.mul_one, implies_true, true_and, and_true, and_self]
          refine (same14_c (cp := cd) (cq := co) (hm90.keep (Fm.drew w90) fun _ _ => id) hmO hrb hrb (by omega)).mono ?_
          rintro _ w383 ⟨rfl, hf383⟩
          have r4' := k4 _ hf383
          simp only [decide_true, Bool.not_true, r4', vcs, eqV, nilV, Option.map_some, Nat.mul_one, implies_true, true_and, and_true, and_self]
          refine ⟨hf383, ?_⟩
          refine br_dec (fun hi0 => ?_) (fun hi0 => fin _ hf383)
          refine br_ndec (fun h => absurd ?_ h) (fun _ => fin _ hf383)
          rw [if_neg (by omega), hOt']
      · rintro u4 w668 hf668
        have k4 : w668.cell? ((⟨D, 0, none⟩ : Addr).add 4) = some (.slice q (O.take k).length cd) := by rw [addr_add]; exact cellOf (Fm.keep hf668 hb90 id) rfl
        have hOt' : (O.take k).length = k := by rw [List.length_take]; omega
        have hf668 : Fm none' w90 w668 := hf668
        simp only [h13, k4, vcs, eqV, nilV, Option.map_some, Nat.mul_one, implies_true, true_and, and_true, and_self]
        refine ⟨F3, ?_, ⟨hS4.a.keep hf668 fun _ _ => id, hS4.hi, hS4.fm.trans hf668⟩, hh4.keep hf668⟩
        show Value.int .i64 ((O.take k).length : Int) = _
        rw [hOt']
    · rintro u3 w677 ⟨F3, h9', hS3, hh3⟩
      change u3 9 = _ at h9'
      rw [show IntKind.i64.wrap ((i : Int) + 1) = ((i + 1 : Nat) : Int) from (w64 (by omega)).trans (by omega)]
      refine ⟨⟨i + 1, F3, by omega, rfl, ?_, hS3, hh3⟩, ?_⟩
      · show u3 9 = _
        rw [h9', if_neg (by omega)]
      · show N7 - ((i + 1 : Nat) : Int).toNat < N7 - (i : Int).toNat
        omega
  · rintro u2 w682 hf
    exact hf
end Go.Proofs.YtipikchkbmgloaaDoor
namespace Go.Proofs.YtipikchkbmgloaaDoor
set_option linter.unusedSimpArgs false
set_option linter.unusedVariables false
open Go Go.RowKit VC
def WinLt (W : Win) (n : Nat) : Prop := Wok W ∧ (W.any = false ∨ W.last < n)
theorem accW_new {W : Win} {n : Nat} (h : WinLt W n) (hn : n < 30000) : (accW W n).1 = true ∧ (accW W n).2.any = true ∧ (accW W n).2.last = n ∧ WinLt (accW W n).2 (n + 1) := by
  have hok := accW_ok (n := n) h.1 (by omega)
  have key : (accW W n).1 = true ∧ (accW W n).2.any = true ∧ (accW W n).2.last = n := by
    unfold accW
    split
    · exact ⟨rfl, rfl, rfl⟩
    · rename_i ha
      rcases h.2 with h0 | h0
      · exact absurd h0 ha
      · have hd : 0 < distI n W.last := by unfold distI; omega
        rw [if_pos hd]
        exact ⟨rfl, rfl, rfl⟩
  exact ⟨key.1, key.2.1, key.2.2, hok, .inr (by rw [key.2.2]; omega)⟩
theorem filter_drop {α : Type} {q : α → Bool} : ∀ (l : List α) (k : Nat), (∀ x ∈ l.take k, q x = false) → (∀ x ∈ l.drop k, q x = true) → l.filter q = l.drop k := by
  intro l
  induction l with
  | nil => intro k _ _; simp
  | cons a l ih =>
    intro k h1 h2
    cases k with
    | zero => rw [List.drop_zero, List.filter_eq_self]; exact fun x hx => h2 x hx
    | succ k =>
      rw [List.filter_cons_of_neg (by rw [h1 a (by simp)]; simp), List.drop_succ_cons]
      exact ih k (fun x hx => h1 x (by simp [hx])) (fun x hx => h2 x (by simpa using hx))
def openC (c : Ch) (d : Dg) (now : Nat) : Ch :=
  { c with
    win := (accW c.win d.seq).2, heard := now, rtt := (c.sent.foldl (stepE d now) (c.rtt, c.timed)).1, timed := (c.sent.foldl (stepE d now) (c.rtt, c.timed)).2,
    sent := c.sent.filter fun e => !goneE d e, wait := c.wait.filter fun x => !(c.sent.any fun e => goneE d e && decide (x.1 ∈ e.ids)) }
theorem unpackC_ok {c : Ch} {ys : List Int} {now : Nat} {d : Dg} (hd : decD ys = (d, 0)) (ha : (accW c.win d.seq).1 = true) : unpackC c ys now = ((d.list, 0), openC c d now) := by
  unfold unpackC
  rw [hd, if_neg (by simp), if_neg (by rw [ha]; simp)]
  rfl
structure PA (own : List Msg) (c : Nat) (a : Ch) (i j : Nat) : Prop where
  wait : a.wait = (numbered own).drop c
  next : a.next = i
  ids : ∀ e ∈ a.sent, (∀ id ∈ e.ids, id < c + fitL [] (own.drop c)) ∧ e.ids.length ≤ 64
  sent : a.sent.length ≤ i
  win : WinLt a.win j
structure PB (b : Ch) (i j : Nat) : Prop where
  wait : b.wait = []
  next : b.next = j
  ids : ∀ e ∈ b.sent, e.ids = []
  sent : b.sent.length ≤ j
  win : WinLt b.win i
theorem PA.snd {own : List Msg} {c i j : Nat} {a : Ch} (h : PA own c a i j) : a.wait.map (·.2) = own.drop c := by rw [h.wait, List.map_drop, numbered_snd]
theorem PA.fst {own : List Msg} {c i j : Nat} {a : Ch} (h : PA own c a i j) : a.wait.map (·.1) = (List.range own.length).drop c := by rw [h.wait, List.map_drop, numbered_fst]
theorem range_mem {n c k x : Nat} (h : x ∈ ((List.range n).drop c).take k) : c ≤ x ∧ x < c + k := by
  obtain ⟨p, hp⟩ := List.getElem?_of_mem h
  have hl := (List.getElem?_eq_some_iff.1 hp).1
  rw [List.length_take, List.length_drop, List.length_range] at hl
  rw [List.getElem?_take_of_lt (by omega), List.getElem?_drop, List.getElem?_range (by omega)] at hp
  cases hp
  omega
theorem PA.pack {own : List Msg} {c i j : Nat} {a : Ch} (h : PA own c a i j) (hown : ∀ m ∈ own, Rok m ∧ m.bytes.length ≤ 900) (hol : own.length ≤ 64) (hi : i < 60000) : ∃ ys d a', packC a [] 0 = ((ys, 0), a') ∧ decD ys = (d, 0) ∧ d.seq = i ∧ d.list = (own.drop c).take (fitL [] (own.drop c)) ∧
    (∀ y ∈ ys, 0 ≤ y ∧ y < 256) ∧ ys.length ≤ 1024 ∧ PA own c a' (i + 1) j ∧ a'.sent = a.sent ++ [⟨i, 0, ((List.range own.length).drop c).take (fitL [] (own.drop c))⟩] := by
  obtain ⟨ys, h1, h2, h3⟩ := packC_nil a 0
  rw [h.snd] at h1 h2 h3
  rw [h.fst, h.next] at h1
  have hr := encD_r { packDg a [] with list := (own.drop c).take (fitL [] (own.drop c)) }
  rw [← h2] at hr
  have hm : Msok ((own.drop c).take (fitL [] (own.drop c))) := ⟨fun m hm => (hown m (List.mem_of_mem_drop (List.mem_of_mem_take hm))).1.ok, fun m hm => by have := (hown m (List.mem_of_mem_drop (List.mem_of_mem_take hm))).2; omega, by rw [List.length_take, List.length_drop]; omega⟩
  have hdec := dec_encD (dok_pack a [] h.win.1 (by rw [h.next]; omega) ((own.drop c).take (fitL [] (own.drop c)))) hm h3
  rw [← h2] at hdec
  refine ⟨ys, _, _, h1, hdec, h.next, rfl, hr.1, hr.2, ⟨h.wait, by show (i + 1) % 65536 = i + 1; omega, fun e he => ?_, ?_, h.win⟩, rfl⟩
  · rcases List.mem_append.1 he with he | he
    · exact h.ids e he
    · obtain rfl := List.mem_singleton.1 he
      exact ⟨fun id hid => (range_mem hid).2, by show (((List.range own.length).drop c).take _).length ≤ 64; rw [List.length_take, List.length_drop, List.length_range]; omega⟩
  · show (a.sent ++ [_]).length ≤ i + 1
    rw [List.length_append]
    have := h.sent
    simp; omega
theorem PB.pack {b : Ch} {i j : Nat} (h : PB b i j) (hj : j < 60000) : ∃ ys d b', packC b [] 0 = ((ys, 0), b') ∧ decD ys = (d, 0) ∧ d.seq = j ∧ d.list = [] ∧ d.any = b.win.any ∧ (b.win.any = true → d.last = b.win.last) ∧
    (∀ y ∈ ys, 0 ≤ y ∧ y < 256) ∧ ys.length ≤ 1024 ∧ PB b' i (j + 1) := by
  obtain ⟨ys, h1, h2, h3⟩ := packC_nil b 0
  rw [h.wait] at h1 h2 h3
  simp only [List.map_nil, List.take_nil] at h1 h2 h3
  rw [h.next] at h1
  have hr := encD_r { packDg b [] with list := [] }
  rw [← h2] at hr
  have hdec := dec_encD (dok_pack b [] h.win.1 (by rw [h.next]; omega) []) msok_nil h3
  rw [← h2] at hdec
  refine ⟨ys, _, _, h1, hdec, h.next, rfl, rfl, fun ha => ?_, hr.1, hr.2, ⟨rfl, by show (j + 1) % 65536 = j + 1; omega, fun e he => ?_, ?_, h.win⟩⟩
  · show (if b.win.any = true then b.win.last else 0) = b.win.last
    rw [if_pos ha]
  · rcases List.mem_append.1 he with he | he
    · exact h.ids e he
    · obtain rfl := List.mem_singleton.1 he
      rfl
  · show (b.sent ++ [_]).length ≤ j + 1
    rw [List.length_append]
    have := h.sent
    simp; omega
theorem PB.unpack {b : Ch} {i j now : Nat} {ys : List Int} {d : Dg} (h : PB b i j) (hi : i < 30000) (hd : decD ys = (d, 0)) (hs : d.seq = i) : ∃ b', unpackC b ys now = ((d.list, 0), b') ∧ PB b' (i + 1) j ∧ b'.win.any = true ∧ b'.win.last = i := by
  obtain ⟨h1, h2, h3, h4⟩ := accW_new h.win hi
  rw [← hs] at h1 h2 h3 h4
  refine ⟨openC b d now, unpackC_ok hd h1, ⟨?_, h.next, fun e he => ?_, ?_, hs ▸ h4⟩, h2, hs ▸ h3⟩
  · show b.wait.filter _ = []
    rw [h.wait]; rfl
  · exact h.ids e (List.mem_filter.1 he).1
  · exact Nat.le_trans (List.length_filter_le _ _) h.sent
theorem PA.unpack {own : List Msg} {c i j now : Nat} {a : Ch} {ys : List Int} {d : Dg} (h : PA own c a (i + 1) j) (hj : j < 30000) (hi : i < 30000) (hd : decD ys = (d, 0)) (hs : d.seq = j) (hany : d.any = true) (hl : d.last = i)
    (hlast : (⟨i, 0, ((List.range own.length).drop c).take (fitL [] (own.drop c))⟩ : Ent) ∈ a.sent) : ∃ a', unpackC a ys now = ((d.list, 0), a') ∧ PA own (c + fitL [] (own.drop c)) a' (i + 1) (j + 1) := by
  obtain ⟨h1, h2, h3, h4⟩ := accW_new h.win hj
  have hk := fitL_le (own.drop c) []
  rw [List.length_drop] at hk
  obtain ⟨k, hkk⟩ : ∃ k, k = fitL [] (own.drop c) := ⟨_, rfl⟩
  rw [← hkk] at hk hlast ⊢
  have hg : goneE d ⟨i, 0, ((List.range own.length).drop c).take k⟩ = true := by
    have h0 : distI i i = 0 := by unfold distI; omega
    unfold goneE ackW
    rw [hany, hl]
    simp only [h0]
    simp
  rw [← hs] at h1 h4
  refine ⟨openC a d now, unpackC_ok hd h1, ⟨?_, h.next, fun e he => ?_, ?_, hs ▸ h4⟩⟩
  · show a.wait.filter _ = _
    rw [h.wait, ← List.drop_drop]
    have hget : ∀ p x, ((numbered own).drop c)[p]? = some x → x.1 = c + p ∧ c + p < own.length := by
      intro p x hx
      have h1 : (((numbered own).drop c).map (·.1))[p]? = some x.1 := by rw [List.getElem?_map, hx]; rfl
      rw [List.map_drop, numbered_fst, List.getElem?_drop] at h1
      have hlt := (List.getElem?_eq_some_iff.1 h1).1
      rw [List.length_range] at hlt
      rw [List.getElem?_range hlt] at h1
      exact ⟨(Option.some.inj h1).symm, hlt⟩
    refine filter_drop _ k (fun x hx => ?_) (fun x hx => ?_)
    · obtain ⟨p, hp⟩ := List.getElem?_of_mem hx
      have hpl := (List.getElem?_eq_some_iff.1 hp).1
      rw [List.length_take] at hpl
      rw [List.getElem?_take_of_lt (by omega)] at hp
      obtain ⟨hx1, hx2⟩ := hget p x hp
      have hin : x.1 ∈ ((List.range own.length).drop c).take k := by
        refine List.mem_of_getElem? (i := p) ?_
        rw [List.getElem?_take_of_lt (by omega), List.getElem?_drop, List.getElem?_range hx2, hx1]
      rw [Bool.not_eq_false', List.any_eq_true]
      exact ⟨_, hlast, by rw [hg, Bool.true_and]; exact decide_eq_true hin⟩
    · obtain ⟨p, hp⟩ := List.getElem?_of_mem hx
      rw [List.getElem?_drop] at hp
      obtain ⟨hx1, hx2⟩ := hget (k + p) x hp
      rw [Bool.not_eq_true', List.any_eq_false]
      intro e he
      rw [Bool.and_eq_true, decide_eq_true_eq]
      rintro ⟨-, hin⟩
      have := (h.ids e he).1 x.1 hin
      rw [← hkk] at this
      omega
  · obtain ⟨q1, q2⟩ := h.ids e (List.mem_filter.1 he).1
    rw [← hkk] at q1
    exact ⟨fun id hid => by have := q1 id hid; omega, q2⟩
  · exact Nat.le_trans (List.length_filter_le _ _) h.sent
theorem PA.start (own : List Msg) : PA own 0 (pushedC own) 0 0 := ⟨rfl, rfl, (fun e he => by simp [pushedC, newC] at he), Nat.le_refl _, ⟨⟨show 0 < 65536 by decide, show 0 < 4294967296 by decide⟩, .inl rfl⟩⟩
theorem PB.start : PB newC 0 0 := ⟨rfl, rfl, (fun e he => by simp [newC] at he), Nat.le_refl _, ⟨⟨by decide, by decide⟩, .inl rfl⟩⟩
theorem PB.up {b : Ch} {i i' j : Nat} (h : PB b i j) (hi : i ≤ i') : PB b i' j := { h with win := ⟨h.win.1, h.win.2.imp id fun h => by omega⟩ }
end Go.Proofs.YtipikchkbmgloaaDoor
namespace Go.Proofs.YtipikchkbmgloaaDoor
set_option linter.unusedSimpArgs false
set_option linter.unusedVariables false
open Go VC
theorem vc6 (ap : Option Addr) (an : Nat) (ac : Nat) (bp : Option Addr) (bn : Nat) (bc : Nat) (w : World) (R : Value → World → Prop)
  (h : callV Tryd.prog (8 : Nat) [] w fun v0 w1 => isB v0 fun t2 => callV Tryd.prog (15 : Nat) [] w1 fun v3 w4 => isP v3 fun o5 => callV Tryd.prog (15 : Nat) [] w4 fun v6 w7 => isP v6 fun o8 => br (Option.isNone o5) (R (Value.bool false) w7) (br (Option.isNone o8) (R (Value.bool false) w7) (cutC (fun u9 => loopC (alist [((8 : Nat), Value.slice none (0 : Nat) (0 : Nat)), ((9 : Nat), Value.int IntKind.i64 (0 : Int))]) w7 fun u10 u11 => ∀ (u12 : Nat → Value) (w13 : World), u10 (alist [((8 : Nat), u12 (8 : Nat)), ((9 : Nat), u12 (9 : Nat))]) w13 → isK IntKind.i64 (u12 (9 : Nat)) fun i15 => br (decide (i15 < (↑an : Int))) (isK IntKind.i64 (u12 (9 : Nat)) fun i16 => br (decide (i16 < (30 : Int))) (cutC (fun u17 => cutC (fun u18 => isK IntKind.i64 (u12 (9 : Nat)) fun i19 => rd ap fun a20 => ((0 : Int) ≤ i19 ∧ i19 < (↑an : Int)) ∧ rd (cellsAt w13 (Addr.add a20 (Int.toNat i19 * (23 : Nat))) (23 : Nat)) fun l21 => callV Tryd.prog (16 : Nat) [Value.agg (List.toArray l21)] w13 fun v22 w23 => isB v22 fun t24 => br (!t24) (u17 (alist [((8 : Nat), u12 (8 : Nat))]) w23) (isK IntKind.i64 (u12 (9 : Nat)) fun i25 => rd ap fun a26 => ((0 : Int) ≤ i25 ∧ i25 < (↑an : Int)) ∧ rd (World.cell? w23 (Addr.add (Addr.add a26 (Int.toNat i25 * (23 : Nat))) (22 : Nat))) fun v27 => isSl v27 fun o28 n29 n30 => br (decide ((900 : Int) < (↑n29 : Int))) (u17 (alist [((8 : Nat), u12 (8 : Nat))]) w23) (u18 (alist []) w23))) fun u31 => ∀ (u32 : Nat → Value) (w33 : World), u31 (alist []) w33 → isK IntKind.i64 (u12 (9 : Nat)) fun i35 => rd ap fun a36 => ((0 : Int) ≤ i35 ∧ i35 < (↑an : Int)) ∧ rd (cellsAt w33 (Addr.add a36 (Int.toNat i35 * (23 : Nat))) (23 : Nat)) fun l37 => callV Tryd.prog (19 : Nat) [Value.pointer o5, Value.agg (List.toArray l37)] w33 fun v38 w39 => isK IntKind.i64 v38 fun i40 => br (!decide (i40 = (0 : Int))) (R (Value.bool false) w39) (isSl (u12 (8 : Nat)) fun o41 n42 n43 => isK IntKind.i64 (u12 (9 : Nat)) fun i44 => rd ap fun a45 => ((0 : Int) ≤ i44 ∧ i44 < (↑an : Int)) ∧ rd (cellsAt w39 (Addr.add a45 (Int.toNat i44 * (23 : Nat))) (23 : Nat)) fun l46 => runs Tryd.prog (Instr.buildSlice (24 : Nat) (1 : Nat) #[((0 : Nat), Value.agg (List.toArray l46))]) w39 fun v47 w48 => isSl v47 fun o49 n50 n51 => runs Tryd.prog (Builtin.append_ #[(24 : Nat), (24 : Nat)] (24 : Nat) #[Value.slice o41 n42 n43, Value.slice o49 n50 n51]) w48 fun v52 w53 => isSl v52 fun o54 n55 n56 => u17 (alist [((8 : Nat), Value.slice o54 n55 n56)]) w53)) fun u57 => ∀ (u58 : Nat → Value) (w59 : World), u57 (alist [((8 : Nat), u58 (8 : Nat))]) w59 → isK IntKind.i64 (u12 (9 : Nat)) fun i61 => again u10 u11 (alist [((8 : Nat), u58 (8 : Nat)), ((9 : Nat), Value.int IntKind.i64 (IntKind.wrap IntKind.i64 (i61 + (1 : Int))))]) w59 (alist [((8 : Nat), u12 (8 : Nat)), ((9 : Nat), u12 (9 : Nat))]) w13) (u9 (alist [((8 : Nat), u12 (8 : Nat))]) w13)) (u9 (alist [((8 : Nat), u12 (8 : Nat))]) w13)) fun u62 => ∀ (u63 : Nat → Value) (w64 : World), u62 (alist [((8 : Nat), u63 (8 : Nat))]) w64 → cutC (fun u66 => loopC (alist [((10 : Nat), Value.int IntKind.i64 (0 : Int))]) w64 fun u67 u68 => ∀ (u69 : Nat → Value) (w70 : World), u67 (alist [((10 : Nat), u69 (10 : Nat))]) w70 → isK IntKind.i64 (u69 (10 : Nat)) fun i72 => br (decide (i72 < (↑bn : Int))) (isK IntKind.i64 (u69 (10 : Nat)) fun i73 => br (decide (i73 < (20 : Int))) (cutC (fun u74 => callV Tryd.prog (17 : Nat) [Value.pointer o5, Value.slice none (0 : Nat) (0 : Nat), Value.int IntKind.u32 (0 : Int)] w70 fun v75 w76 => isTup v75 fun l77 => rd l77[(0 : Nat)]? fun v78 => isSl v78 fun o79 n80 n81 => isTup v75 fun l82 => rd l82[(1 : Nat)]? fun v83 => isK IntKind.i64 v83 fun i84 => cutC (fun u85 => br (!decide (i84 = (0 : Int))) (R (Value.bool false) w76) (u85 (alist []) w76)) fun u86 => ∀ (u87 : Nat → Value) (w88 : World), u86 (alist []) w88 → isK IntKind.i64 (u69 (10 : Nat)) fun i90 => rd bp fun a91 => ((0 : Int) ≤ i90 ∧ i90 < (↑bn : Int)) ∧ rd (World.cell? w88 (Addr.add a91 (Int.toNat i90 * (1 : Nat)))) fun v92 => isB v92 fun t93 => br (!t93) (callV Tryd.prog (18 : Nat) [Value.pointer o8, Value.slice o79 n80 n81, Value.int IntKind.u32 (0 : Int)] w88 fun v94 w95 => u74 (alist []) w95) (u74 (alist []) w88)) fun u96 => ∀ (u97 : Nat → Value) (w98 : World), u96 (alist []) w98 → isK IntKind.i64 (u69 (10 : Nat)) fun i100 => again u67 u68 (alist [((10 : Nat), Value.int IntKind.i64 (IntKind.wrap IntKind.i64 (i100 + (1 : Int))))]) w98 (alist [((10 : Nat), u69 (10 : Nat))]) w70) (u66 (alist []) w70)) (u66 (alist []) w70)) fun u101 => ∀ (u102 : Nat → Value) (w103 : World), u101 (alist []) w103 → cutC (fun u105 => loopC (alist [((13 : Nat), Value.slice none (0 : Nat) (0 : Nat)), ((14 : Nat), Value.int IntKind.i64 (0 : Int))]) w103 fun u106 u107 => ∀ (u108 : Nat → Value) (w109 : World), u106 (alist [((13 : Nat), u108 (13 : Nat)), ((14 : Nat), u108 (14 : Nat))]) w109 → isK IntKind.i64 (u108 (14 : Nat)) fun i111 => isSl (u63 (8 : Nat)) fun o112 n113 n114 => br (decide (i111 ≤ (↑n113 : Int))) (cutC (fun u115 => callV Tryd.prog (20 : Nat) [Value.pointer o5] w109 fun v116 w117 => isK IntKind.i64 v116 fun i118 => callV Tryd.prog (17 : Nat) [Value.pointer o5, Value.slice none (0 : Nat) (0 : Nat), Value.int IntKind.u32 (0 : Int)] w117 fun v119 w120 => isTup v119 fun l121 => rd l121[(0 : Nat)]? fun v122 => isSl v122 fun o123 n124 n125 => isTup v119 fun l126 => rd l126[(1 : Nat)]? fun v127 => isK IntKind.i64 v127 fun i128 => callV Tryd.prog (18 : Nat) [Value.pointer o8, Value.slice o123 n124 n125, Value.int IntKind.u32 (0 : Int)] w120 fun v129 w130 => isTup v129 fun l131 => rd l131[(0 : Nat)]? fun v132 => isSl v132 fun o133 n134 n135 => isTup v129 fun l136 => rd l136[(1 : Nat)]? fun v137 => isK IntKind.i64 v137 fun i138 => callV Tryd.prog (17 : Nat) [Value.pointer o8, Value.slice none (0 : Nat) (0 : Nat), Value.int IntKind.u32 (0 : Int)] w130 fun v139 w140 => isTup v139 fun l141 => rd l141[(0 : Nat)]? fun v142 => isSl v142 fun o143 n144 n145 => isTup v139 fun l146 => rd l146[(1 : Nat)]? fun v147 => isK IntKind.i64 v147 fun i148 => cutC (fun u149 => callV Tryd.prog (18 : Nat) [Value.pointer o5, Value.slice o143 n144 n145, Value.int IntKind.u32 (0 : Int)] w140 fun v150 w151 => isTup v150 fun l152 => rd l152[(0 : Nat)]? fun v153 => isSl v153 fun o154 n155 n156 => isTup v150 fun l157 => rd l157[(1 : Nat)]? fun v158 => isK IntKind.i64 v158 fun i159 => u149 (alist [((23 : Nat), Value.int IntKind.i64 i159)]) w151) fun u160 => ∀ (u161 : Nat → Value) (w162 : World), u160 (alist [((23 : Nat), u161 (23 : Nat))]) w162 → cutC (fun u164 => br (!decide (i128 = (0 : Int))) (R (Value.bool false) w162) (br (!decide (i138 = (0 : Int))) (R (Value.bool false) w162) (br (!decide (i148 = (0 : Int))) (R (Value.bool false) w162) (isK IntKind.i64 (u161 (23 : Nat)) fun i165 => br (!decide (i165 = (0 : Int))) (R (Value.bool false) w162) (br (decide (i118 < (↑n134 : Int))) (R (Value.bool false) w162) (br (decide ((0 : Int) < i118)) (br (decide ((↑n134 : Int) = (0 : Int))) (R (Value.bool false) w162) (callV Tryd.prog (20 : Nat) [Value.pointer o5] w162 fun v166 w167 => isK IntKind.i64 v166 fun i168 => br (decide (IntKind.wrap IntKind.i64 (i118 - (↑n134 : Int)) < i168)) (R (Value.bool false) w167) (u164 (alist []) w167))) (callV Tryd.prog (20 : Nat) [Value.pointer o5] w162 fun v169 w170 => isK IntKind.i64 v169 fun i171 => br (decide (IntKind.wrap IntKind.i64 (i118 - (↑n134 : Int)) < i171)) (R (Value.bool false) w170) (u164 (alist []) w170)))))))) fun u172 => ∀ (u173 : Nat → Value) (w174 : World), u172 (alist []) w174 → isSl (u108 (13 : Nat)) fun o176 n177 n178 => runs Tryd.prog (Builtin.append_ #[(24 : Nat), (24 : Nat)] (24 : Nat) #[Value.slice o176 n177 n178, Value.slice o133 n134 n135]) w174 fun v179 w180 => isSl v179 fun o181 n182 n183 => u115 (alist [((13 : Nat), Value.slice o181 n182 n183)]) w180) fun u184 => ∀ (u185 : Nat → Value) (w186 : World), u184 (alist [((13 : Nat), u185 (13 : Nat))]) w186 → isK IntKind.i64 (u108 (14 : Nat)) fun i188 => again u106 u107 (alist [((13 : Nat), u185 (13 : Nat)), ((14 : Nat), Value.int IntKind.i64 (IntKind.wrap IntKind.i64 (i188 + (1 : Int))))]) w186 (alist [((13 : Nat), u108 (13 : Nat)), ((14 : Nat), u108 (14 : Nat))]) w109) (u105 (alist [((13 : Nat), u108 (13 : Nat))]) w109)) fun u189 => ∀ (u190 : Nat → Value) (w191 : World), u189 (alist [((13 : Nat), u190 (13 : Nat))]) w191 → br t2 (callV Tryd.prog (20 : Nat) [Value.pointer o5] w191 fun v193 w194 => isK IntKind.i64 v193 fun i195 => br (decide (i195 = (0 : Int))) (isSl (u190 (13 : Nat)) fun o196 n197 n198 => isSl (u63 (8 : Nat)) fun o199 n200 n201 => br (decide ((↑n197 : Int) ≤ (↑n200 : Int))) (isSl (u190 (13 : Nat)) fun o202 n203 n204 => isSl (u63 (8 : Nat)) fun o205 n206 n207 => isSl (u63 (8 : Nat)) fun o208 n209 n210 => isSl (u190 (13 : Nat)) fun o211 n212 n213 => runs Tryd.prog (Instr.sliceAt (24 : Nat) (Value.slice o205 n206 n207) (some (Value.int IntKind.i64 (IntKind.wrap IntKind.i64 ((↑n209 : Int) - (↑n212 : Int))))) none none) w194 fun v214 w215 => isSl v214 fun o216 n217 n218 => callV Tryd.prog (14 : Nat) [Value.slice o202 n203 n204, Value.slice o216 n217 n218] w215 fun v219 w220 => isB v219 fun t221 => R (Value.bool t221) w220) (R (Value.bool false) w194)) (R (Value.bool false) w194)) (R (Value.bool false) w191)))) :
  callV Tryd.prog 6 [Value.slice ap an ac, Value.slice bp bn bc] w R :=
  vc_of hm ⟨fun n => match n with | 9 => true | 11 => true | 14 => true | 16 => true | 20 => true | 22 => true | 25 => true | 31 => true | 33 => true | 34 => true | _ => false, fun _ => .done, fun n => match n with | 14 => [8] | 8 => [8, 9] | 9 => [8] | 11 => [] | 22 => [] | 15 => [10] | 16 => [] | 20 => [] | 34 => [13] | 24 => [13, 14] | 25 => [13] | 31 => [23] | 33 => [] | _ => []⟩ Tryd.func6 ent6 (by kernel_rfl) h

end Go.Proofs.YtipikchkbmgloaaDoor
namespace Go.Proofs.YtipikchkbmgloaaDoor
set_option linter.unusedSimpArgs false
set_option linter.unusedVariables false
open Go Go.RowKit VC
variable {w : World}
def Both (FA FB : Nat → Prop) : Nat → Prop := fun i => FA i ∨ FB i
section
variable {w0 w' : World} {FA FB F' : Nat → Prop} {A B : Nat} {a b a' : Ch} {v : Value} {l : List Msg}
theorem Held.stepA (h : Held w0 w (Both FA FB) v l) (hD : Duo w0 w FA FB A B a b) (hF' : ∀ i, F' i → FA i ∨ w.heap.size ≤ i) (f : Fm FA w w') : Held w0 w' (Both F' FB) v l :=
  h.step (fun i hi => hi.elim (hD.hiA i) (hD.hiB i)) (fun i hi => hi.elim (fun h => (hF' i h).imp .inl id) fun h => .inl (.inr h)) (f.mono fun i _ h => .inl h)
theorem Held.swap (h : Held w0 w (Both FA FB) v l) : Held w0 w (Both FB FA) v l := ⟨h.rows, fun i hi hf => h.no i hi hf.symm⟩
theorem Duo.keepS {S : Nat → Prop} (h : Duo w0 w FA FB A B a b) (f : Fm S w w') (hS : ∀ i, S i → w0.heap.size ≤ i ∧ ¬ Both FA FB i) : Duo w0 w' FA FB A B a b :=
  ⟨h.a.keep f fun i hi hs => (hS i hs).2 (.inl hi), h.b.keep f fun i hi hs => (hS i hs).2 (.inr hi), h.dis, h.hiA, h.hiB, h.fm.trans' f fun i hi hs => by have := (hS i hs).1; omega⟩
theorem Duo.lt (h : Duo w0 w FA FB A B a b) : ∀ i, Both FA FB i → i < w.heap.size := fun i hi => hi.elim (h.a.lt i) (h.b.lt i)
end
def OwnF (w : World) (base : Nat) (G : Nat → Prop) (sv : Value) (ms : List Msg) : Prop :=
  ∃ qs : List (Option Addr × Nat), qs.length = ms.length ∧ w.ownsRow base 53 23 sv ms.length ((ms.zip qs).flatMap fun x => msgC x.1 x.2.1 x.2.2) ∧ (∀ i, sv.ownBlock = some i → ¬ G i) ∧
    ∀ (j : Nat) (m : Msg) (q : Option Addr × Nat), ms[j]? = some m → qs[j]? = some q → w.ownsRow base 5 1 (.slice q.1 m.bytes.length q.2) m.bytes.length (m.bytes.map (Value.int .u8)) ∧ ∀ i, (Value.slice q.1 m.bytes.length q.2).ownBlock = some i → ¬ G i
theorem OwnF.of {base b : Nat} {G : Nat → Prop} {sv : Value} {ms : List Msg} (h : OwnMsgs w base sv ms) (hG : ∀ i, base ≤ i → ¬ G i) (hb : b ≤ base) : OwnF w b G sv ms := by
  obtain ⟨qs, h1, h2, h3⟩ := h
  exact ⟨qs, h1, own_base h2 hb, fun i hi => hG i (own_block h2 hi).1, fun j m q hj hq => ⟨own_base (h3 j m q hj hq) hb, fun i hi => hG i (own_block (h3 j m q hj hq) hi).1⟩⟩
theorem OwnF.step {w' : World} {base : Nat} {G G' S : Nat → Prop} {sv : Value} {ms : List Msg} (h : OwnF w base G sv ms) (hG : ∀ i, G' i → G i ∨ w.heap.size ≤ i) (f : Fm S w w') (hS : ∀ i, S i → G i) : OwnF w' base G' sv ms := by
  obtain ⟨qs, h1, h2, h3, h4⟩ := h
  refine ⟨qs, h1, f.owns h2 fun i hi hs => h3 i hi (hS i hs), fun i hi hg => ?_, fun j m q hj hq => ⟨f.owns (h4 j m q hj hq).1 fun i hi hs => (h4 j m q hj hq).2 i hi (hS i hs), fun i hi hg => ?_⟩⟩
  · rcases hG i hg with h | h
    · exact h3 i hi h
    · obtain ⟨_, cur, hc⟩ := own_block h2 hi
      have := lt_of_blk hc; omega
  · rcases hG i hg with h | h
    · exact (h4 j m q hj hq).2 i hi h
    · obtain ⟨_, cur, hc⟩ := own_block (h4 j m q hj hq).1 hi
      have := lt_of_blk hc; omega
theorem OwnF.msgs {base : Nat} {G : Nat → Prop} {sv : Value} {ms : List Msg} (h : OwnF w base G sv ms) : OwnMsgs w base sv ms := by
  obtain ⟨qs, h1, h2, h3, h4⟩ := h
  exact ⟨qs, h1, h2, fun j m q hj hq => (h4 j m q hj hq).1⟩
theorem OwnF.nil (w : World) (base : Nat) (G : Nat → Prop) : OwnF w base G (.slice none 0 0) [] := ⟨[], rfl, ⟨rfl, .inl ⟨rfl, rfl⟩⟩, fun i hi => (by cases hi), fun j m q h => by simp at h⟩
theorem OwnF.blk {base : Nat} {G : Nat → Prop} {sv : Value} {ms : List Msg} (h : OwnF w base G sv ms) {i : Nat} (hi : sv.ownBlock = some i) : base ≤ i ∧ ¬ G i := by
  obtain ⟨qs, h1, h2, h3, h4⟩ := h
  exact ⟨(own_block h2 hi).1, h3 i hi⟩
theorem OwnF.swap {base : Nat} {FA FB : Nat → Prop} {sv : Value} {ms : List Msg} (h : OwnF w base (Both FA FB) sv ms) : OwnF w base (Both FB FA) sv ms := by
  have e : Both FB FA = Both FA FB := by funext i; exact propext Or.comm
  rw [e]; exact h
theorem flat23 (l : List (Msg × Option Addr × Nat)) : (l.flatMap fun x => msgC x.1 x.2.1 x.2.2).length = l.length * 23 := by
  induction l with
  | nil => rfl
  | cons x l ih => rw [List.flatMap_cons, List.length_append, ih, List.length_cons]; show 23 + _ = _; omega
theorem app_came {base : Nat} {G : Nat → Prop} {p q : Option Addr} {c e : Nat} {l l2 : List Msg} {K : Value → World → Prop} (h : OwnF w base G (.slice p l.length c) l) (h2 : OwnF w base G (.slice q l2.length e) l2) (hG : ∀ i, G i → i < w.heap.size) (hb : base ≤ w.heap.size) (hl : l.length + l2.length ≤ 1000)
    (kk : ∀ p' c' w', OwnF w' base G (.slice p' (l ++ l2).length c') (l ++ l2) → Fm (fun i => (Value.slice p l.length c).ownBlock = some i) w w' → ((Value.slice p' (l ++ l2).length c').ownBlock = (Value.slice p l.length c).ownBlock ∨ ∃ g, (Value.slice p' (l ++ l2).length c').ownBlock = some g ∧ w.heap.size ≤ g) → K (.slice p' (l ++ l2).length c') w') :
    runs Tryd.prog (Builtin.append_ #[24, 24] 24 #[.slice p l.length c, .slice q l2.length e]) w K := by
  obtain ⟨qs, a1, a2, a3, a4⟩ := h
  obtain ⟨rs, b1, b2, b3, b4⟩ := h2
  obtain ⟨q', e', hqe, hxl, hread⟩ := own_readS b2
  cases hqe
  have hzl : (l2.zip rs).length = l2.length := by rw [List.length_zip, b1, Nat.min_self]
  have hone : ∀ y ∈ (l2.zip rs).flatMap (fun x => msgC x.1 x.2.1 x.2.2), y.oneCell' = true := by
    intro y hy
    obtain ⟨x, _, hx⟩ := List.mem_flatMap.1 hy
    exact msgC_one y hx
  refine append_rS (m := l2.length) (ys := (l2.zip rs).flatMap fun x => msgC x.1 x.2.1 x.2.2) (by rw [row24]) row53 rfl (by omega) a2 (by rw [flat23, hzl]) hone (fun j y hy => ?_) hb (by simp only [maxLen]; omega) (by omega) fun p' c' w' ho hf hblk => ?_
  · obtain ⟨g, e1, -, -, hc⟩ := hread j y hy
    exact ⟨g, 0, e1, by rw [Nat.zero_add]; exact hc⟩
  have hlen : (l ++ l2).length = l.length + l2.length := List.length_append
  have e1 : ((l ++ l2).zip (qs ++ rs)).flatMap (fun x => msgC x.1 x.2.1 x.2.2) = (l.zip qs).flatMap (fun x => msgC x.1 x.2.1 x.2.2) ++ (l2.zip rs).flatMap (fun x => msgC x.1 x.2.1 x.2.2) := by
    rw [List.zip_append a1.symm, List.flatMap_append]
  have key : ∀ {m : Msg} {r : Option Addr × Nat}, (w.ownsRow base 5 1 (.slice r.1 m.bytes.length r.2) m.bytes.length (m.bytes.map (Value.int .u8)) ∧ ∀ i, (Value.slice r.1 m.bytes.length r.2).ownBlock = some i → ¬ G i) → (w'.ownsRow base 5 1 (.slice r.1 m.bytes.length r.2) m.bytes.length (m.bytes.map (Value.int .u8)) ∧ ∀ i, (Value.slice r.1 m.bytes.length r.2).ownBlock = some i → ¬ G i) := by
    rintro m r ⟨k1, k2⟩
    refine ⟨hf.owns k1 fun i hi hs => ?_, k2⟩
    obtain ⟨_, cur, hc⟩ := own_block k1 hi
    obtain ⟨_, cur2, hc2⟩ := own_block a2 hs
    rw [hc] at hc2; cases hc2
  have := kk p' c' w' ⟨qs ++ rs, by simp [a1, b1], by rw [hlen, e1]; exact ho, fun i hi hg => ?_, fun j m r hj hr => ?_⟩ hf (by rw [hlen]; exact hblk.imp id fun h => ⟨_, h, Nat.le_refl _⟩)
  · rw [hlen] at this; exact this
  · rw [hlen] at hi
    rcases hblk with h | h
    · rw [h] at hi; exact a3 i hi hg
    · rw [h] at hi; cases hi
      have := hG _ hg; omega
  · by_cases hjl : j < l.length
    · rw [List.getElem?_append_left hjl] at hj
      rw [List.getElem?_append_left (by omega)] at hr
      exact key (a4 j m r hj hr)
    · rw [List.getElem?_append_right (by omega)] at hj
      rw [List.getElem?_append_right (by omega), a1] at hr
      exact key (b4 _ m r hj hr)
set_option maxRecDepth 20000 in
set_option maxHeartbeats 2000000 in
theorem comes6_c {ms : List Msg} {p q : Option Addr} {c e : Nat} {bs : List Bool} (hH : Halves w) (hin : In w p ms) (hsz : ∀ m ∈ ms, m.bytes.length ≤ 140737488351232)
    (hb : ∀ j b, bs[j]? = some b → ∃ ad, q = some ad ∧ w.cell? (ad.add j) = some (.bool b)) :
    callV Tryd.prog 6 [.slice p ms.length c, .slice q bs.length e] w fun v w' => v = .bool true ∧ Fm none' w w' := by
  refine vc6 p ms.length c q bs.length e w _ ?_
  refine (shown8_c hH).mono ?_
  rintro _ w1 ⟨rfl, hf1⟩
  simp only [vcs, eqV, nilV, Option.map_some, Nat.mul_one, implies_true, true_and, and_true, and_self]
  refine (duo_new (w := w1)).mono ?_
  rintro _ w4 ⟨A, rfl, hnew⟩
  simp only [vcs, eqV, nilV, Option.map_some, Nat.mul_one, implies_true, true_and, and_true, and_self]
  refine hnew.mono ?_
  rintro _ w7 ⟨FA0, FB0, B, rfl, hD0⟩
  simp only [Option.isNone_some, vcs, eqV, nilV, Option.map_some, Nat.mul_one, implies_true, true_and, and_true, and_self]
  have hD0 : Duo w w7 FA0 FB0 A B newC newC := ⟨hD0.a, hD0.b, hD0.dis, fun i hi => Nat.le_trans hf1.size (hD0.hiA i hi), fun i hi => Nat.le_trans hf1.size (hD0.hiB i hi), hf1.trans hD0.fm⟩
  refine ⟨fun u W => ∃ (own : Option Addr × Nat) (FA FB : Nat → Prop), u 8 = .slice own.1 (ownM ms 30).length own.2 ∧ Duo w W FA FB A B (pushedC (ownM ms 30)) newC ∧ Held w W (Both FA FB) (u 8) (ownM ms 30), ?_, ?_⟩
  · refine ⟨fun u W => ∃ (i : Nat) (own : Option Addr × Nat) (FA FB : Nat → Prop), i ≤ ms.length ∧ i ≤ 30 ∧ u 9 = .int .i64 i ∧ u 8 = .slice own.1 (ownM ms i).length own.2 ∧ Duo w W FA FB A B (pushedC (ownM ms i)) newC ∧ Held w W (Both FA FB) (u 8) (ownM ms i),
      fun u _ => 30 - (intOf (u 9)).toNat, ⟨0, (none, 0), FA0, FB0, by omega, by omega, rfl, rfl, hD0, Held.nil _ _ _⟩, ?_⟩
    rintro u w13 ⟨i, ⟨po, co⟩, FA, FB, hi, hi30, h9, h8, hD, hh⟩
    change u 9 = _ at h9
    change u 8 = .slice po (ownM ms i).length co at h8
    change Held w w13 (Both FA FB) (u 8) (ownM ms i) at hh
    simp only [h8, h9, vcs, eqV, nilV, Option.map_some, Nat.mul_one, implies_true, true_and, and_true, and_self] at hh ⊢
    have fin : (i = ms.length ∨ i = 30) → ∃ (own : Option Addr × Nat) (FA FB : Nat → Prop), alist [(8, .slice po (ownM ms i).length co)] 8 = .slice own.1 (ownM ms 30).length own.2 ∧ Duo w w13 FA FB A B (pushedC (ownM ms 30)) newC ∧ Held w w13 (Both FA FB) (alist [(8, .slice po (ownM ms i).length co)] 8) (ownM ms 30) := by
      intro h
      have e : ownM ms 30 = ownM ms i := by
        rcases h with rfl | rfl
        · unfold ownM; rw [List.take_of_length_le (by omega), List.take_of_length_le (Nat.le_refl _)]
        · rfl
      rw [e]
      exact ⟨(po, co), FA, FB, rfl, hD, hh⟩
    refine br_dec (fun hlt => ?_) (fun hge => fin (.inl (by omega)))
    refine br_dec (fun hlt30 => ?_) (fun hge => fin (.inr (by omega)))
    obtain ⟨m, hm⟩ : ∃ m, ms[i]? = some m := ⟨ms[i]'(by omega), by simp⟩
    refine ⟨fun u W => ∃ (own : Option Addr × Nat) (FA FB : Nat → Prop), u 8 = .slice own.1 (ownM ms (i + 1)).length own.2 ∧ Duo w W FA FB A B (pushedC (ownM ms (i + 1))) newC ∧ Held w W (Both FA FB) (u 8) (ownM ms (i + 1)), ?_, ?_⟩
    · obtain ⟨ad, qm, cq, rfl, hcs, hc22, hby, hqb⟩ := arg_msg hin hD.fm hm
      have hmok := hin.ok m (List.mem_of_getElem? hm)
      have hsame : okM m = false → ∀ w', Fm none' w13 w' → ∃ (own : Option Addr × Nat) (FA FB : Nat → Prop), alist [(8, .slice po (ownM ms i).length co)] 8 = .slice own.1 (ownM ms (i + 1)).length own.2 ∧ Duo w w' FA FB A B (pushedC (ownM ms (i + 1))) newC ∧ Held w w' (Both FA FB) (alist [(8, .slice po (ownM ms i).length co)] 8) (ownM ms (i + 1)) := by
        intro ho w' hf
        rw [ownM_snoc hm, ho, if_neg (by simp), List.append_nil]
        exact ⟨(po, co), FA, FB, rfl, hD.keep hf, hh.keep hf⟩
      refine ⟨fun _ W => okM m = true ∧ Fm none' w13 W, ?_, ?_⟩
      · simp only [Int.toNat_natCast, hcs, vcs, eqV, nilV, Option.map_some, Nat.mul_one, implies_true, true_and, and_true, and_self]
        refine ⟨by omega, ?_⟩
        refine (right16_c hmok hby (fun ad' e hne => Nat.lt_of_lt_of_le (hqb ad' e hne) hD.fm.size) (hsz m (List.mem_of_getElem? hm))).mono ?_
        rintro _ w23 ⟨rfl, hf23⟩
        simp only [vcs, eqV, nilV, Option.map_some, Nat.mul_one, implies_true, true_and, and_true, and_self]
        cases hr : rightM m with
        | false =>
          simp only [Bool.not_false, vcs, eqV, nilV, Option.map_some, Nat.mul_one, implies_true, true_and, and_true, and_self]
          exact hsame (by unfold okM; rw [hr]; rfl) w23 hf23
        | true =>
          have hc22' := hf23.cell hc22 (by exact id)
          simp only [Bool.not_true, hc22', vcs, eqV, nilV, Option.map_some, Nat.mul_one, implies_true, true_and, and_true, and_self]
          refine ⟨by omega, ?_⟩
          refine br_dec (fun h900 => ?_) (fun h900 => ?_)
          · exact hsame (by unfold okM; rw [hr, decide_eq_false (by omega)]; rfl) w23 hf23
          · exact ⟨by unfold okM; rw [hr, decide_eq_true (by omega)]; rfl, hf23⟩
      rintro u3 w33 ⟨hok, hf33⟩
      have hrm : rightM m = true ∧ m.bytes.length ≤ 900 := by
        unfold okM at hok
        rw [Bool.and_eq_true, decide_eq_true_eq] at hok
        exact hok
      have hD33 := hD.keep hf33
      obtain ⟨ad2, q2, cq2, e2, hcs33, -, hby33, hqb33⟩ := arg_msg hin hD33.fm hm
      cases e2
      simp only [Int.toNat_natCast, hcs33, vcs, eqV, nilV, Option.map_some, Nat.mul_one, implies_true, true_and, and_true, and_self]
      refine ⟨by omega, ?_⟩
      have hol := ownM_le ms i
      refine (duo_push hD33 hmok hby33 (fun ad' e hne => Nat.lt_of_lt_of_le (hqb33 ad' e hne) hD33.fm.size) (by omega)).mono ?_
      rintro _ w39 ⟨rfl, F', hD39, hF', hf39⟩
      have hpush := push_step (own := ownM ms i) (m := m) (by omega)
      rw [hrm.1, if_pos rfl] at hpush
      rw [hpush] at hD39 ⊢
      have hh39 : Held w w39 (Both F' FB) (.slice po (ownM ms i).length co) (ownM ms i) := (hh.keep hf33).stepA hD33 hF' hf39
      obtain ⟨ad3, q3, cq3, e3, hcs39, -, hby39, hqb39⟩ := arg_msg hin hD39.fm hm
      cases e3
      simp only [Int.toNat_natCast, hcs39, vcs, eqV, nilV, Option.map_some, Nat.mul_one, implies_true, true_and, and_true, and_self]
      refine br_ndec (fun h => absurd trivial h) (fun _ => ?_)
      refine ⟨by omega, ?_⟩
      refine app_msg hh39 hD39.lt hby39 hqb39 hD39.fm.size (by omega) fun p' c' w53 hh53 hf53 => ?_
      have e1 : ownM ms (i + 1) = ownM ms i ++ [m] := by rw [ownM_snoc hm, hok, if_pos rfl]
      rw [e1]
      simp only [vcs, eqV, nilV, Option.map_some, Nat.mul_one, implies_true, true_and, and_true, and_self]
      exact ⟨(p', c'), F', FB, rfl, hD39.keepS hf53 fun i h => hh39.blk h, hh53⟩
    · rintro u' w51 ⟨⟨po', co'⟩, FA', FB', h8', hD', hh'⟩
      change u' 8 = .slice po' (ownM ms (i + 1)).length co' at h8'
      rw [show IntKind.i64.wrap ((i : Int) + 1) = ((i + 1 : Nat) : Int) from (w64 (by omega)).trans (by omega)]
      refine ⟨⟨i + 1, (po', co'), FA', FB', by omega, by omega, rfl, h8', hD', hh'⟩, ?_⟩
      show 30 - ((i + 1 : Nat) : Int).toNat < 30 - (i : Int).toNat
      omega
  rintro u wS ⟨⟨po, co⟩, FA1, FB1, h8, hD1, hh1⟩
  change u 8 = .slice po (ownM ms 30).length co at h8
  obtain ⟨O, hO⟩ : ∃ O, O = ownM ms 30 := ⟨_, rfl⟩
  have hOk := ownM_rok (ms := ms) hin.ok (i := 30)
  have hOl := ownM_le ms 30
  rw [← hO] at h8 hD1 hh1 hOk hOl
  rw [h8] at hh1
  -- some datagrams, any of them lost
  have hread : ∀ (W : World), Fm none' w W → ∀ j b, bs[j]? = some b → ∃ ad, q = some ad ∧ W.cell? (ad.add j) = some (.bool b) := fun W hf j b hj => by
    obtain ⟨ad, e1, h1⟩ := hb j b hj
    exact ⟨ad, e1, hf.cell h1 (by exact id)⟩
  refine ⟨fun _ W => ∃ (La : Nat) (FA FB : Nat → Prop) (a b : Ch), La ≤ 20 ∧ Duo w W FA FB A B a b ∧ PA O 0 a La 0 ∧ PB b La 0 ∧ Held w W (Both FA FB) (.slice po O.length co) O, ?_, ?_⟩
  · refine ⟨fun u W => ∃ (i : Nat) (FA FB : Nat → Prop) (a b : Ch), i ≤ bs.length ∧ i ≤ 20 ∧ u 10 = .int .i64 i ∧ Duo w W FA FB A B a b ∧ PA O 0 a i 0 ∧ PB b i 0 ∧ Held w W (Both FA FB) (.slice po O.length co) O, fun u _ => 20 - (intOf (u 10)).toNat,
      ⟨0, FA1, FB1, pushedC O, newC, by omega, by omega, rfl, hD1, PA.start O, PB.start, hh1⟩, ?_⟩
    rintro u2 w70 ⟨i, FA, FB, a, b, hi, hi20, h10, hD, hPA, hPB, hh⟩
    change u2 10 = _ at h10
    simp only [h10, vcs, eqV, nilV, Option.map_some, Nat.mul_one, implies_true, true_and, and_true, and_self]
    have fin : ∃ (La : Nat) (FA FB : Nat → Prop) (a b : Ch), La ≤ 20 ∧ Duo w w70 FA FB A B a b ∧ PA O 0 a La 0 ∧ PB b La 0 ∧ Held w w70 (Both FA FB) (.slice po O.length co) O := ⟨i, FA, FB, a, b, hi20, hD, hPA, hPB, hh⟩
    refine br_dec (fun hlt => ?_) (fun _ => fin)
    refine br_dec (fun hlt20 => ?_) (fun _ => fin)
    refine ⟨fun _ W => ∃ (FA FB : Nat → Prop) (a b : Ch), Duo w W FA FB A B a b ∧ PA O 0 a (i + 1) 0 ∧ PB b (i + 1) 0 ∧ Held w W (Both FA FB) (.slice po O.length co) O, ?_, ?_⟩
    · obtain ⟨ys, d, a', hp1, hdec, hseq, hdl, hyr, hyl, hPA', -⟩ := hPA.pack hOk (by omega) (by omega)
      refine (duo_pack (l := []) (p := none) (cp := 0) (now := 0) (N := w70.heap.size) hH hD (msgs_nil _ _ _) (Nat.le_refl _) msok_nil (by simp) (by omega) (by have := hPA.sent; omega)).mono ?_
      rintro _ w76 ⟨qx, ex, F3, rfl, hx, hD3, hF3, hf3⟩
      rw [hp1] at hx hD3 ⊢
      simp only [vcs, eqV, nilV, Option.map_some, Nat.mul_one, implies_true, true_and, and_true, and_self, List.getElem?_toArray, List.getElem?_cons_zero, List.getElem?_cons_succ]
      change Loose w76 F3 FB w70.heap.size qx ex ys at hx
      change Duo w w76 F3 FB A B a' b at hD3
      have hh3 := hh.stepA hD hF3 hf3
      refine ⟨fun _ W => W = w76, br_ndec (fun h => absurd trivial h) (fun _ => rfl), ?_⟩
      rintro u4 w76 rfl
      obtain ⟨lb, hlb⟩ : ∃ lb, bs[i]? = some lb := ⟨bs[i]'(by omega), by simp⟩
      obtain ⟨ad, rfl, hcl⟩ := hread w76 hD3.fm i lb hlb
      simp only [Int.toNat_natCast, hcl, vcs, eqV, nilV, Option.map_some, Nat.mul_one, implies_true, true_and, and_true, and_self]
      refine ⟨by omega, ?_⟩
      cases lb with
      | true =>
        simp only [Bool.not_true, vcs, eqV, nilV, Option.map_some, Nat.mul_one, implies_true, true_and, and_true, and_self]
        exact ⟨F3, FB, a', b, hD3, hPA', hPB.up (by omega), hh3⟩
      | false =>
        simp only [Bool.not_false, vcs, eqV, nilV, Option.map_some, Nat.mul_one, implies_true, true_and, and_true, and_self]
        obtain ⟨b', hu, hPB', -, -⟩ := hPB.unpack (now := 0) (by omega) hdec hseq
        refine (duo_unpack (ys := ys) (cp := ex) (now := 0) hH hD3.swap hx.bytes hyr (by omega) hx.cap (by omega) (by have := hPB.sent; omega) (fun e he => by rw [hPB.ids e he]; simp)).mono ?_
        rintro _ w95 ⟨q1, e1, rfl, ho1, hD4, hf4⟩
        rw [hu] at hD4
        exact ⟨F3, FB, a', b', hD4.swap, hPA', hPB', (hh3.swap.stepA hD3.swap (fun i hi => .inl hi) hf4).swap⟩
    · rintro u4 w98 ⟨FA', FB', a', b', hD', hPA', hPB', hh'⟩
      rw [show IntKind.i64.wrap ((i : Int) + 1) = ((i + 1 : Nat) : Int) from (w64 (by omega)).trans (by omega)]
      refine ⟨⟨i + 1, FA', FB', a', b', by omega, by omega, rfl, hD', hPA', hPB', hh'⟩, ?_⟩
      show 20 - ((i + 1 : Nat) : Int).toNat < 20 - (i : Int).toNat
      omega
  rintro u2 w103 ⟨La, FA2, FB2, a2, b2, hLa, hD2, hPA2, hPB2, hh2⟩
  -- rounds there and back
  obtain ⟨K0, hK0⟩ : ∃ K0, K0 = w103.heap.size := ⟨_, rfl⟩
  have hob : ∀ i, (Value.slice po O.length co).ownBlock = some i → i < K0 := fun i hi => by rw [hK0]; exact (hh2.rows.blk hi).2.1
  refine ⟨fun u W => ∃ (cm : Option Addr × Nat) (FA FB : Nat → Prop) (a b : Ch) (i j : Nat), u 13 = .slice cm.1 O.length cm.2 ∧ Duo w W FA FB A B a b ∧ a.wait = [] ∧ Held w W (Both FA FB) (.slice po O.length co) O ∧ OwnF W w.heap.size (Both FA FB) (.slice cm.1 O.length cm.2) O, ?_, ?_⟩
  · refine ⟨fun u W => ∃ (r cc : Nat) (cm : Option Addr × Nat) (FA FB : Nat → Prop) (a b : Ch), r ≤ O.length + 1 ∧ cc ≤ O.length ∧ min r O.length ≤ cc ∧ u 14 = .int .i64 r ∧ u 13 = .slice cm.1 (O.take cc).length cm.2 ∧ Duo w W FA FB A B a b ∧ PA O cc a (La + r) r ∧ PB b (La + r) r ∧
        Held w W (Both FA FB) (.slice po O.length co) O ∧ OwnF W w.heap.size (Both FA FB) (.slice cm.1 (O.take cc).length cm.2) (O.take cc) ∧ (∀ i, (Value.slice cm.1 (O.take cc).length cm.2).ownBlock = some i → K0 ≤ i) ∧ K0 ≤ W.heap.size, fun u _ => O.length + 1 - (intOf (u 14)).toNat,
      ⟨0, 0, (none, 0), FA2, FB2, a2, b2, by omega, by omega, by omega, rfl, rfl, hD2, hPA2, hPB2, hh2, OwnF.nil _ _ _, (fun i hi => by cases hi), by omega⟩, ?_⟩
    rintro u3 w109 ⟨r, cc, ⟨pc, c3⟩, FA, FB, a, b, hr, hcc, hmin, h14, h13, hD, hPA, hPB, hh, hown, hcb, hK⟩
    change u3 14 = _ at h14
    change u3 13 = .slice pc (O.take cc).length c3 at h13
    change OwnF w109 w.heap.size (Both FA FB) (.slice pc (O.take cc).length c3) (O.take cc) at hown
    change ∀ i, (Value.slice pc (O.take cc).length c3).ownBlock = some i → K0 ≤ i at hcb
    simp only [h14, h8, h13, vcs, eqV, nilV, Option.map_some, Nat.mul_one, implies_true, true_and, and_true, and_self]
    refine br_dec (fun hle => ?_) (fun hgt => ?_)
    case refine_2 =>
      have hce : cc = O.length := by omega
      subst hce
      rw [List.take_length] at hown ⊢
      refine ⟨(pc, c3), FA, FB, a, b, 0, 0, rfl, hD, ?_, hh, hown⟩
      rw [hPA.wait]
      exact List.drop_eq_nil_of_le (by rw [numbered_len]; omega)
    obtain ⟨k, hk⟩ : ∃ k, k = fitL [] (O.drop cc) := ⟨_, rfl⟩
    have hkl : k ≤ O.length - cc := by rw [hk]; have := fitL_le (O.drop cc) []; rwa [List.length_drop] at this
    have hdl : ((O.drop cc).take k).length = k := by rw [List.length_take, List.length_drop]; omega
    have hkpos : cc < O.length → 0 < k := fun h => by
      rw [hk]
      obtain ⟨m, rest, e1⟩ : ∃ m rest, O.drop cc = m :: rest := by
        cases hd : O.drop cc with
        | nil => have := congrArg List.length hd; rw [List.length_drop] at this; simp at this; omega
        | cons m rest => exact ⟨m, rest, rfl⟩
      rw [e1]
      have := hOk m (List.mem_of_mem_drop (i := cc) (by rw [e1]; simp))
      exact fitL_pos this.1 this.2
    have hwl : a.wait.length = O.length - cc := by rw [hPA.wait, List.length_drop, numbered_len]
    refine ⟨fun u W => ∃ (cm : Option Addr × Nat) (FA FB : Nat → Prop) (a b : Ch), u 13 = .slice cm.1 (O.take (cc + k)).length cm.2 ∧ Duo w W FA FB A B a b ∧ PA O (cc + k) a (La + r + 1) (r + 1) ∧ PB b (La + r + 1) (r + 1) ∧ Held w W (Both FA FB) (.slice po O.length co) O ∧
      OwnF W w.heap.size (Both FA FB) (.slice cm.1 (O.take (cc + k)).length cm.2) (O.take (cc + k)) ∧ (∀ i, (Value.slice cm.1 (O.take (cc + k)).length cm.2).ownBlock = some i → K0 ≤ i) ∧ K0 ≤ W.heap.size, ?_, ?_⟩
    · refine (duo_waits hD).mono ?_
      rintro _ w109 ⟨rfl, rfl⟩
      simp only [vcs, eqV, nilV, Option.map_some, Nat.mul_one, implies_true, true_and, and_true, and_self]
      obtain ⟨ys, d, a', hp1, hdec, hseq, hdlist, hyr, hyl, hPA', hsent'⟩ := hPA.pack hOk (by omega) (by omega)
      rw [← hk] at hdlist hsent'
      refine (duo_pack (l := []) (p := none) (cp := 0) (now := 0) (N := w109.heap.size) hH hD (msgs_nil _ _ _) (Nat.le_refl _) msok_nil (by simp) (by omega) (by have := hPA.sent; omega)).mono ?_
      rintro _ w120 ⟨qx, ex, F3, rfl, hx, hD3, hF3, hf3⟩
      rw [hp1] at hx hD3 ⊢
      simp only [vcs, eqV, nilV, Option.map_some, Nat.mul_one, implies_true, true_and, and_true, and_self, List.getElem?_toArray, List.getElem?_cons_zero, List.getElem?_cons_succ]
      change Loose w120 F3 FB w109.heap.size qx ex ys at hx
      change Duo w w120 F3 FB A B a' b at hD3
      have hh3 := hh.stepA hD hF3 hf3
      have hown3 : OwnF w120 w.heap.size (Both F3 FB) (.slice pc (O.take cc).length c3) (O.take cc) := hown.step (fun i hi => hi.elim (fun h => (hF3 i h).imp .inl id) fun h => .inl (.inr h)) hf3 fun i hi => .inl hi
      obtain ⟨b', hu, hPB', hany', hlast'⟩ := hPB.unpack (now := 0) (by omega) hdec hseq
      refine (duo_unpack (ys := ys) (cp := ex) (now := 0) hH hD3.swap hx.bytes hyr (by omega) hx.cap (by omega) (by have := hPB.sent; omega) (fun e he => by rw [hPB.ids e he]; simp)).mono ?_
      rintro _ w130 ⟨q1, e1, rfl, ho1, hD4, hf4⟩
      rw [hu] at hD4 ho1 ⊢
      simp only [vcs, eqV, nilV, Option.map_some, Nat.mul_one, implies_true, true_and, and_true, and_self, List.getElem?_toArray, List.getElem?_cons_zero, List.getElem?_cons_succ]
      change Duo w w130 FB F3 B A b' a' at hD4
      change OwnMsgs w130 w120.heap.size (.slice q1 d.list.length e1) d.list at ho1
      rw [hdlist] at ho1 ⊢
      have hh4 := (hh3.swap.stepA hD3.swap (fun i hi => .inl hi) hf4)
      have hown4 := (hown3.swap.step (fun i hi => .inl hi) hf4 fun i hi => .inl hi)
      have hm4 : OwnF w130 w.heap.size (Both FB F3) (.slice q1 ((O.drop cc).take k).length e1) ((O.drop cc).take k) := OwnF.of ho1 (fun i hi hg => by have := hD3.swap.lt i hg; omega) hD3.fm.size
      obtain ⟨zs, d2, b'', hp2, hdec2, hseq2, hdl2, hany2, hlast2, hzr, hzl, hPB''⟩ := hPB'.pack (by omega)
      refine (duo_pack (l := []) (p := none) (cp := 0) (now := 0) (N := w130.heap.size) hH hD4 (msgs_nil _ _ _) (Nat.le_refl _) msok_nil (by simp) (by omega) (by have := hPB'.sent; omega)).mono ?_
      rintro _ w140 ⟨qy, ey, F5, rfl, hy, hD5, hF5, hf5⟩
      rw [hp2] at hy hD5 ⊢
      simp only [vcs, eqV, nilV, Option.map_some, Nat.mul_one, implies_true, true_and, and_true, and_self, List.getElem?_toArray, List.getElem?_cons_zero, List.getElem?_cons_succ]
      change Loose w140 F5 F3 w130.heap.size qy ey zs at hy
      change Duo w w140 F5 F3 B A b'' a' at hD5
      have hh5 := hh4.stepA hD4 hF5 hf5
      have up5 : ∀ i, Both F5 F3 i → Both FB F3 i ∨ w130.heap.size ≤ i := fun i hi => hi.elim (fun h => (hF5 i h).imp .inl id) fun h => .inl (.inr h)
      have hown5 := hown4.step up5 hf5 fun i hi => .inl hi
      have hm5 := hm4.step up5 hf5 fun i hi => .inl hi
      obtain ⟨a'', hu2, hPA''⟩ := PA.unpack (now := 0) hPA' (by omega) (by omega) hdec2 hseq2 (by rw [hany2]; exact hany') (by rw [hlast2 hany', hlast']) (by rw [← hk, hsent']; simp)
      rw [← hk] at hPA''
      refine ⟨fun u W => u 23 = .int .i64 0 ∧ w109.heap.size ≤ W.heap.size ∧ Duo w W F3 F5 A B a'' b'' ∧ Held w W (Both F3 F5) (.slice po O.length co) O ∧ OwnF W w.heap.size (Both F3 F5) (.slice pc (O.take cc).length c3) (O.take cc) ∧ OwnF W w.heap.size (Both F3 F5) (.slice q1 ((O.drop cc).take k).length e1) ((O.drop cc).take k), ?_, ?_⟩
      · refine (duo_unpack (ys := zs) (cp := ey) (now := 0) hH hD5.swap hy.bytes hzr (by omega) hy.cap (by omega) (by have := hPA'.sent; omega) (fun e he => by have := (hPA'.ids e he).2; omega)).mono ?_
        rintro _ w151 ⟨q6, e6, rfl, ho6, hD6, hf6⟩
        rw [hu2] at hD6 ⊢
        simp only [vcs, eqV, nilV, Option.map_some, Nat.mul_one, implies_true, true_and, and_true, and_self, List.getElem?_toArray, List.getElem?_cons_zero, List.getElem?_cons_succ]
        change Duo w w151 F3 F5 A B a'' b'' at hD6
        exact ⟨rfl, Nat.le_trans hf3.size (Nat.le_trans hf4.size (Nat.le_trans hf5.size hf6.size)), hD6, hh5.swap.stepA hD5.swap (fun i hi => .inl hi) hf6, hown5.swap.step (fun i hi => .inl hi) hf6 fun i hi => .inl hi, hm5.swap.step (fun i hi => .inl hi) hf6 fun i hi => .inl hi⟩
      rintro u5 w162 ⟨h23, hsz162, hD7, hh7, hown7, hm7⟩
      change u5 23 = _ at h23
      have hwl2 : a''.wait.length = O.length - (cc + k) := by rw [hPA''.wait, List.length_drop, numbered_len]
      refine ⟨fun _ W => W = w162, ?_, ?_⟩
      · have wts : callV Tryd.prog 20 [.pointer (some ⟨A, 0, none⟩)] w162 fun v166 w167 => isK .i64 v166 fun i168 => br (decide (IntKind.i64.wrap ((a.wait.length : Int) - (((O.drop cc).take k).length : Int)) < i168)) (Value.bool false = .bool true ∧ Fm none' w w167) (w167 = w162) := by
          refine (duo_waits hD7).mono ?_
          rintro _ W ⟨rfl, rfl⟩
          simp only [vcs, eqV, nilV, Option.map_some, Nat.mul_one, implies_true, true_and, and_true, and_self]
          refine br_dec (fun h => ?_) (fun _ => trivial)
          rw [w64 (by omega)] at h
          omega
        simp only [h23, decide_true, Bool.not_true, vcs, eqV, nilV, Option.map_some, Nat.mul_one, implies_true, true_and, and_true, and_self]
        refine br_dec (fun h => by omega) (fun _ => ?_)
        refine br_dec (fun h => ?_) (fun _ => wts)
        refine br_dec (fun h0 => ?_) (fun _ => wts)
        have := hkpos (by omega)
        omega
      rintro u6 w162 rfl
      have hll : (O.take cc).length + ((O.drop cc).take k).length ≤ 1000 := by rw [List.length_take]; omega
      have etk : O.take cc ++ (O.drop cc).take k = O.take (cc + k) := by rw [List.take_add]
      refine app_came hown7 hm7 hD7.lt hD7.fm.size hll fun p' c' w180 hown8 hf8 hblk8 => ?_
      rw [etk] at hown8 hblk8 ⊢
      simp only [vcs, eqV, nilV, Option.map_some, Nat.mul_one, implies_true, true_and, and_true, and_self]
      have hs162 : w109.heap.size ≤ w162.heap.size := hsz162
      refine ⟨(p', c'), F3, F5, a'', b'', rfl, hD7.keepS hf8 fun i h => hown7.blk h, hPA'', hPB'', ?_, hown8, fun i hi => ?_, Nat.le_trans hK (Nat.le_trans hs162 hf8.size)⟩
      · refine ⟨hh7.rows.keepS hf8 (fun i hi hs => ?_) fun i hi hs => by have := (hown7.blk hs).1; omega, hh7.no⟩
        have := hob i hi
        have := hcb i hs
        omega
      · rcases hblk8 with h | ⟨g, h, h'⟩
        · rw [h] at hi; exact hcb i hi
        · have hi' : (Value.slice p' (O.take (cc + k)).length c').ownBlock = some i := hi
          rw [h] at hi'
          cases hi'
          omega
    · rintro u4 w186 ⟨⟨p', c'⟩, FA', FB', a', b', h13', hD', hPA', hPB', hh', hown', hcb', hK'⟩
      rw [show IntKind.i64.wrap ((r : Int) + 1) = ((r + 1 : Nat) : Int) from (w64 (by omega)).trans (by omega)]
      have hk1 : cc < O.length → 0 < k := hkpos
      refine ⟨⟨r + 1, cc + k, (p', c'), FA', FB', a', b', by omega, by omega, by omega, rfl, h13', hD', hPA', hPB', hh', hown', hcb', hK'⟩, ?_⟩
      show O.length + 1 - ((r + 1 : Nat) : Int).toNat < O.length + 1 - (r : Int).toNat
      omega
  rintro u3 w191 ⟨⟨pc, c3⟩, FA, FB, a, b, -, -, h13, hD, hwait, hh, hown⟩
  change u3 13 = .slice pc O.length c3 at h13
  have hwz : a.wait.length = 0 := by rw [hwait]; rfl
  simp only [h8, h13, vcs, eqV, nilV, Option.map_some, Nat.mul_one, implies_true, true_and, and_true, and_self]
  refine (duo_waits hD).mono ?_
  rintro _ w191 ⟨rfl, rfl⟩
  simp only [hwz, vcs, eqV, nilV, Option.map_some, Nat.mul_one, implies_true, true_and, and_true, and_self]
  refine br_dec (fun _ => ?_) (fun h => absurd rfl h)
  refine br_dec (fun _ => ?_) (fun h => absurd (Int.le_refl _) h)
  rw [show IntKind.i64.wrap ((O.length : Int) - (O.length : Int)) = ((0 : Nat) : Int) by rw [w64 (by omega)]; omega]
  refine sliceAt_loS (by rw [row24]) row53 (by omega) (by omega) ?_
  simp only [Int.toNat_natCast, Nat.zero_mul, Nat.sub_zero, vcs, eqV, nilV, Option.map_some, Nat.mul_one, implies_true, true_and, and_true, and_self]
  have hmO : MsgsAt w191 w191.heap.size (if co = 0 then po else po.map (·.add 0)) (O.take O.length) := (hh.at hD.fm.size).take O.length co
  rw [List.take_length] at hmO
  obtain ⟨_, _, e1, m1⟩ := hown.msgs.at
  cases e1
  have hrb : ∀ m ∈ O, ∀ y ∈ m.bytes, 0 ≤ y ∧ y < 256 := fun m hm => (hOk m hm).1.ok.bytes
  refine (same14_c (cp := c3) (cq := co) m1 hmO hrb hrb (by omega)).mono ?_
  rintro _ w220 ⟨rfl, hf220⟩
  simp only [decide_true, vcs, eqV, nilV, Option.map_some, Nat.mul_one, implies_true, true_and, and_true, and_self]
  exact hD.fm.trans hf220
end Go.Proofs.YtipikchkbmgloaaDoor
namespace Go.Proofs.YtipikchkbmgloaaDoor
set_option linter.unusedSimpArgs false
set_option linter.unusedVariables false
open Go Go.RowKit VC
def WinSet (W : Win) (S : List Bool) : Prop :=
  Wok W ∧ ((W.any = false ∧ ∀ j : Nat, S[j]? ≠ some true) ∨
    (W.any = true ∧ W.last < S.length ∧ S[W.last]? = some true ∧ (∀ j : Nat, W.last < j → S[j]? ≠ some true) ∧ ∀ j : Nat, j < W.last → (W.bits.testBit (W.last - j - 1) = true ↔ S[j]? = some true)))
theorem set_get {S : List Bool} {k j : Nat} (hk : k < S.length) : (S.set k true)[j]? = some true ↔ j = k ∨ S[j]? = some true := by
  rw [List.getElem?_set]
  by_cases h : k = j
  · subst h
    rw [if_pos rfl, if_pos hk]
    simp
  · rw [if_neg h]
    constructor
    · intro h'; exact .inr h'
    · rintro (h' | h')
      · exact absurd h'.symm h
      · exact h'
theorem set_same' {S : List Bool} {k : Nat} (h : S[k]? = some true) : S.set k true = S := by
  obtain ⟨hl, hv⟩ := List.getElem?_eq_some_iff.1 h
  rw [← hv]
  exact List.set_getElem_self hl
theorem bits_new {b d p : Nat} (hp : p < 32) (hd : 1 ≤ d) : (b * 2 ^ d % 4294967296 ||| 2 ^ (d - 1) % 4294967296).testBit p = true ↔ (d ≤ p ∧ b.testBit (p - d) = true) ∨ p = d - 1 := by
  have e : (4294967296 : Nat) = 2 ^ 32 := rfl
  rw [Nat.testBit_or, e, Nat.testBit_mod_two_pow, Nat.testBit_mod_two_pow, Nat.mul_comm, Nat.testBit_two_pow_mul, Nat.testBit_two_pow, decide_eq_true hp]
  simp only [Bool.true_and, Bool.or_eq_true, Bool.and_eq_true, decide_eq_true_eq]
  constructor
  · rintro (h | h)
    · exact .inl h
    · exact .inr h.symm
  · rintro (h | h)
    · exact .inl h
    · exact .inr h.symm
theorem accW_set {W : Win} {S : List Bool} {k : Nat} (h : WinSet W S) (hS : S.length ≤ 10) (hk : k < S.length) : ((accW W k).1 = true ↔ S[k]? ≠ some true) ∧ WinSet (accW W k).2 (S.set k true) ∧ (S[k]? = some true → (accW W k).2 = W) := by
  obtain ⟨hok, h⟩ := h
  have hok' := accW_ok (n := k) hok (by omega)
  rcases h with ⟨ha, hn⟩ | ⟨ha, hl, hlt, hgt, hbit⟩
  · have e : accW W k = (true, ⟨true, k, 0⟩) := by unfold accW; rw [if_pos ha]
    rw [e] at hok' ⊢
    refine ⟨⟨fun _ => hn k, fun _ => rfl⟩, ⟨hok', .inr ⟨rfl, by rw [List.length_set]; exact hk, (set_get hk).2 (.inl rfl), fun j hj hs => ?_, fun j hj => ?_⟩⟩, fun h => absurd h (hn k)⟩
    · rcases (set_get hk).1 hs with h | h
      · have : k < j := hj; omega
      · exact hn j h
    · rw [set_get hk]
      have hj' : j < k := hj
      simp only [Nat.zero_testBit]
      constructor
      · intro h; cases h
      · rintro (h | h)
        · omega
        · exact absurd h (hn j)
  · have hna : ¬ W.any = false := by rw [ha]; simp
    have hd : distI k W.last = (k : Int) - W.last := by unfold distI; omega
    by_cases h1 : W.last < k
    · have hd1 : 0 < distI k W.last := by omega
      obtain ⟨d, hdd⟩ : ∃ d : Nat, (distI k W.last).toNat = d := ⟨_, rfl⟩
      have hdv : d = k - W.last := by omega
      have e : accW W k = (true, ⟨true, k, (W.bits * 2 ^ d % 4294967296 ||| 2 ^ (d - 1) % 4294967296)⟩) := by unfold accW; rw [if_neg hna, if_pos hd1, hdd]
      rw [e] at hok' ⊢
      refine ⟨⟨fun _ => hgt k h1, fun _ => rfl⟩, ⟨hok', .inr ⟨rfl, by rw [List.length_set]; exact hk, (set_get hk).2 (.inl rfl), fun j hj hs => ?_, fun j hj => ?_⟩⟩, fun h => absurd h (hgt k h1)⟩
      · have hj' : k < j := hj
        rcases (set_get hk).1 hs with h | h
        · omega
        · exact hgt j (by omega) h
      · have hj' : j < k := hj
        rw [set_get hk]
        show (W.bits * 2 ^ d % 4294967296 ||| 2 ^ (d - 1) % 4294967296).testBit (k - j - 1) = true ↔ _
        rw [bits_new (by omega) (by omega)]
        constructor
        · rintro (⟨h2, h3⟩ | h2)
          · have hjl : j < W.last := by omega
            refine .inr ((hbit j hjl).1 ?_)
            rw [show k - j - 1 - d = W.last - j - 1 by omega] at h3
            exact h3
          · have : j = W.last := by omega
            rw [this]; exact .inr hlt
        · rintro (h2 | h2)
          · omega
          · by_cases hjl : j < W.last
            · refine .inl ⟨by omega, ?_⟩
              rw [show k - j - 1 - d = W.last - j - 1 by omega]
              exact (hbit j hjl).2 h2
            · by_cases hje : j = W.last
              · exact .inr (by omega)
              · exact absurd h2 (hgt j (by omega))
    · have hd1 : ¬ 0 < distI k W.last := by omega
      by_cases h2 : k = W.last
      · have e : accW W k = (false, W) := by unfold accW; rw [if_neg hna, if_neg hd1, if_pos (.inl (by omega))]
        rw [e]
        have hsk : S[k]? = some true := by rw [h2]; exact hlt
        rw [set_same' hsk]
        exact ⟨⟨fun h => (by cases h), fun h => absurd hsk h⟩, ⟨hok, .inr ⟨ha, hl, hlt, hgt, hbit⟩⟩, fun _ => rfl⟩
      · have hkl : k < W.last := by omega
        have en : (-distI k W.last).toNat - 1 = W.last - k - 1 := by omega
        by_cases h3 : W.bits.testBit (W.last - k - 1) = true
        · have e : accW W k = (false, W) := by unfold accW; rw [if_neg hna, if_neg hd1, en, if_pos (.inr (.inr h3))]
          have hsk := (hbit k hkl).1 h3
          rw [e, set_same' hsk]
          exact ⟨⟨fun h => (by cases h), fun h => absurd hsk h⟩, ⟨hok, .inr ⟨ha, hl, hlt, hgt, hbit⟩⟩, fun _ => rfl⟩
        · have e : accW W k = (true, ⟨true, W.last, W.bits ||| 2 ^ (W.last - k - 1)⟩) := by
            unfold accW
            rw [if_neg hna, if_neg hd1, en, if_neg]
            rintro (h | h | h)
            · omega
            · omega
            · exact h3 h
          have hsk : S[k]? ≠ some true := fun h => h3 ((hbit k hkl).2 h)
          rw [e] at hok' ⊢
          refine ⟨⟨fun _ => hsk, fun _ => rfl⟩, ⟨hok', .inr ⟨rfl, by rw [List.length_set]; exact hl, (set_get hk).2 (.inr hlt), fun j hj hs => ?_, fun j hj => ?_⟩⟩, fun h => absurd h hsk⟩
          · have hj' : W.last < j := hj
            rcases (set_get hk).1 hs with h | h
            · omega
            · exact hgt j hj' h
          · have hj' : j < W.last := hj
            rw [set_get hk]
            show (W.bits ||| 2 ^ (W.last - k - 1)).testBit (W.last - j - 1) = true ↔ _
            rw [Nat.testBit_or, Nat.testBit_two_pow, Bool.or_eq_true, decide_eq_true_eq, hbit j hj']
            constructor
            · rintro (h | h)
              · exact .inr h
              · exact .inl (by omega)
            · rintro (h | h)
              · exact .inr (by omega)
              · exact .inl h
theorem WinSet.start (n : Nat) : WinSet ⟨false, 0, 0⟩ (List.replicate n false) := by
  refine ⟨⟨by decide, by decide⟩, .inl ⟨rfl, fun j h => ?_⟩⟩
  have := List.mem_of_getElem? h
  exact absurd (List.eq_of_mem_replicate this) (by decide)
theorem dec_bad {x : List Int} {i : Nat} {y z : Int} (hx : ∀ y ∈ x, 0 ≤ y ∧ y < 256) (hl : 9 ≤ x.length) (hi : (sealB x)[i]? = some y) (hz : 0 ≤ z ∧ z < 256) (hne : z ≠ y) : decD ((sealB x).set i z) = (dgZ, 4) := by
  have hcl := crcF_lt x 65535 (by omega) hx
  have hsl := sealB_length x
  have hil := (List.getElem?_eq_some_iff.1 hi).1
  have hlen : ((sealB x).set i z).length = x.length + 2 := by rw [List.length_set, hsl]
  have hb2 := beB_length (crcF 65535 x) 2
  unfold decD bodyB
  rw [hlen, if_neg (by omega), Nat.add_sub_cancel, if_pos]
  by_cases h : i < x.length
  · have e1 : (sealB x).set i z = x.set i z ++ beB (crcF 65535 x) 2 := by unfold sealB; rw [List.set_append_left _ _ h]
    have hlx : (x.set i z).length = x.length := List.length_set
    rw [e1, List.drop_left' hlx, List.take_left' hlx, valB_2 hcl]
    have hi' : x[i]? = some y := by unfold sealB at hi; rwa [List.getElem?_append_left h] at hi
    exact fun h' => crcF_turn (by omega) hx hi' hz hne h'.symm
  · have e1 : (sealB x).set i z = x ++ (beB (crcF 65535 x) 2).set (i - x.length) z := by unfold sealB; rw [List.set_append_right _ _ (by omega)]
    rw [e1, List.drop_left' rfl, List.take_left' rfl]
    have hi' : (beB (crcF 65535 x) 2)[i - x.length]? = some y := by unfold sealB at hi; rwa [List.getElem?_append_right (by omega)] at hi
    intro h'
    have hset : ∀ v ∈ (beB (crcF 65535 x) 2).set (i - x.length) z, 0 ≤ v ∧ v < 256 := by
      intro v hv
      rcases List.mem_or_eq_of_mem_set hv with h | rfl
      · exact beB_r _ _ v h
      · exact hz
    have h2 := beB_val2 (by rw [List.length_set]; exact hb2) hset
    rw [h'] at h2
    have h3 := congrArg (·[i - x.length]?) h2
    simp only [hi'] at h3
    rw [List.getElem?_set_self (by omega)] at h3
    exact hne (Option.some.inj h3).symm
end Go.Proofs.YtipikchkbmgloaaDoor
