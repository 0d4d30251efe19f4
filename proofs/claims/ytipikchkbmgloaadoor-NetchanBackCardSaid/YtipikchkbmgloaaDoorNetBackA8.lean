/- What NetBack needs, part 8 of 12: ChP ChK E5 Duo D0 RTx D1 RRt RBi REn DgR D2.  Conditions: as each part says. -/
import Derived.Test.YtipikchkbmgloaaDoorNetBackA7
namespace Go.Proofs.YtipikchkbmgloaaDoor
set_option linter.unusedSimpArgs false
set_option linter.unusedVariables false
open Go Go.RowKit VC
variable {w : World}
theorem RowMsgs.base {base b N : Nat} {sv : Value} {ms : List Msg} (h : RowMsgs w base N sv ms) (hb : b ≤ base) : RowMsgs w b N sv ms := by
  obtain ⟨qs, h1, h2, h3⟩ := h
  exact ⟨qs, h1, own_base h2 hb, h3⟩
theorem clone38_c {ms : List Msg} {p : Option Addr} {c N : Nat} (hm : MsgsAt w N p ms) (hN : N ≤ w.heap.size) (hl : ms.length ≤ 1000) :
    callV Tryd.prog 38 [.slice p ms.length c] w fun v w' => RowMsgs w' w.heap.size N v ms ∧ Fm none' w w' := by
  refine vc38 p ms.length c w _ ?_
  cases p with
  | none =>
    have : ms = [] := by
      cases ms with
      | nil => rfl
      | cons m l => obtain ⟨_, _, _, e, _⟩ := hm 0 m rfl; cases e
    subst this
    exact ⟨RowMsgs.nil _ _ _, Fm.refl _ _⟩
  | some ad =>
    change runs _ _ _ _
    refine build_noneS (by rw [row24]) row53 fun w1 hs hlt1 hf1 => ?_
    change runs _ _ _ _
    refine app_rows (base := w.heap.size) rfl hs (hm.keep hf1 fun _ _ => id) hN hf1.size hl fun v w2 hr hf2 => ?_
    obtain ⟨o, d, rfl⟩ := rowSl hr
    refine ⟨hr, hf1.trans' hf2 fun i hi e => ?_⟩
    have := (own_block hs e).1
    omega
section
variable {F : Nat → Prop} {A : Nat} {bl : Nat → Nat} {mk : Nat → Bool} {c : Ch} {wv sv : Value}
theorem HasAt.up {F' : Nat → Prop} {n : Nat} {ids : List Nat} {h : Value} (H : HasAt w F wv bl n ids h) (hF : ∀ i, F i → F' i) : HasAt w F' wv bl n ids h := ⟨H.own, fun i hi => ⟨hF i (H.inF i hi).1, (H.inF i hi).2⟩, H.lt⟩
theorem Core.up {F' : Nat → Prop} (h : Core w F A bl mk c wv sv) (hF : ∀ i, F i → F' i) (hl : ∀ i, F' i → i < w.heap.size) : Core w F' A bl mk c wv sv :=
  { h with fA := hF A h.fA, lt := hl, fw := fun i hi => hF i (h.fw i hi), ids := fun i hi => ⟨hF _ (h.ids i hi).1, (h.ids i hi).2⟩, msgs := fun x hx => (h.msgs x hx).imp id (And.imp id fun ⟨q, cq, h3, h4⟩ => ⟨q, cq, h3, h4.mono hF⟩) }
theorem SentAt.up {F' : Nat → Prop} {n : Nat} {es : List Ent} {hs : List Value} (h : SentAt w F bl n es wv sv hs) (hF : ∀ i, F i → F' i) : SentAt w F' bl n es wv sv hs :=
  { h with fs := fun i hi => hF i (h.fs i hi), has := fun j e x he hh => (h.has j e x he hh).up hF }
theorem ptrs_congr {bl' : Nat → Nat} {ids : List Nat} (h : ∀ i ∈ ids, bl' i = bl i) : ptrs bl' ids = ptrs bl ids := by
  unfold ptrs
  induction ids with
  | nil => rfl
  | cons i ids ih =>
    rw [List.flatMap_cons, List.flatMap_cons, ih fun j hj => h j (List.mem_cons_of_mem _ hj)]
    simp only [ptr1, adOf, h i List.mem_cons_self]
theorem wtC_len (m : Msg) (q : Option Addr) (cq : Nat) (b : Bool) : (wtC m q cq b).length = 24 := rfl
set_option maxRecDepth 20000 in
set_option maxHeartbeats 2000000 in
theorem push19_c {m : Msg} {p : Option Addr} {cp : Nat} (h : ChAt w F A c) (hm : Mok m) (hy : BytesAt w p m.bytes) (hp : ∀ ad, p = some ad → m.bytes ≠ [] → ad.block < w.heap.size) (hl : m.bytes.length ≤ 1000000) :
    callV Tryd.prog 19 [.pointer (some ⟨A, 0, none⟩), .agg (msgC m p cp).toArray] w fun v w' => v = .int .i64 (pushC c m).1 ∧ ChAt w' (FNew F w w') A (pushC c m).2 ∧ Fm F w w' := by
  obtain ⟨bl, mk, wv, sv, hs, hc, hS, hmk⟩ := h
  unfold msgC
  apply vc19
  refine allocC_of fun w1 hb1 hs1 hf1 => ?_
  change w1.heap[w.heap.size]? = some (.cells (msgC m p cp).toArray 53 (0, 0)) at hb1
  refine rd_of (v := msgC m p cp) (cells_all hb1 rfl) ?_
  have hupF : ∀ w' : World, ∀ i, F i → FNew F w w' i := fun _ i h => .inl h
  have hfn : ∀ w' : World, w.heap.size ≤ w'.heap.size → ∀ i, FNew F w w' i → i < w'.heap.size := fun w' hle i hi => hi.elim (fun h => Nat.lt_of_lt_of_le (hc.lt i h) hle) (·.2)
  have stay : ∀ w', Fm none' w w' → ChAt w' (FNew F w w') A c := fun w' hf =>
    ⟨bl, mk, wv, sv, hs, (hc.keep hf fun _ _ _ _ _ _ => id).up (hupF w') (hfn w' hf.size), (hS.keep hf fun _ _ _ _ _ _ => id).up (hupF w'), hmk⟩
  refine (right16_c hm (hy.keep hf1 fun _ _ => id) (fun ad e hne => Nat.lt_of_lt_of_le (hp ad e hne) hf1.size) (by omega)).mono ?_
  rintro _ w4 ⟨rfl, hf4⟩
  simp only [vcs, eqV, nilV, Option.map_some, Nat.mul_one, implies_true, true_and, and_true, and_self]
  have hF4 := hf1.trans hf4
  cases hr : rightM m with
  | false =>
    simp only [Bool.not_false, vcs, eqV, nilV, Option.map_some, Nat.mul_one, implies_true, true_and, and_true, and_self]
    have e : pushC c m = (1, c) := by unfold pushC; rw [if_pos hr]
    rw [e]
    exact ⟨rfl, stay w4 hF4, hF4.none⟩
  | true =>
    simp only [Bool.not_true, vcs, eqV, nilV, Option.map_some, Nat.mul_one, implies_true, true_and, and_true, and_self]
    have hc4 : Core w4 F A bl mk c wv sv := hc.keep hF4 fun _ _ _ _ _ _ => id
    have k1 : w4.cell? ⟨A, 1, none⟩ = some wv := cellOf hc4.box rfl
    obtain ⟨pw, cw, hwv⟩ := hc.wvSl
    have hb4 := hf4.keep hb1 id
    have k2 : w4.cell? ⟨w.heap.size, 22, none⟩ = some (.slice p m.bytes.length cp) := cellOf hb4 rfl
    simp only [addr_add, Nat.zero_add, k1, hwv, k2, vcs, eqV, nilV, Option.map_some, Nat.mul_one, implies_true, true_and, and_true, and_self]
    refine br_dec (fun hfull => ?_) (fun hfull => ?_)
    · have e : pushC c m = (5, c) := by unfold pushC; rw [if_neg (by rw [hr]; simp), if_pos (by omega)]
      rw [e]
      exact ⟨rfl, stay w4 hF4, hF4.none⟩
    have e : pushC c m = (0, { c with wait := c.wait ++ [(c.pushed, m)], pushed := c.pushed + 1 }) := by unfold pushC; rw [if_neg (by rw [hr]; simp), if_neg (by omega)]
    rw [e]
    have hok : Rok m := rok_of hm (by omega) hr
    refine (clone46_c (c := cp) (hy.keep hF4 fun _ _ => id) (Nat.le_refl _) (by omega)).mono ?_
    rintro vb w15 ⟨hob, hbn, hf15⟩
    obtain ⟨qb, cb, rfl, -⟩ := own_read hob
    simp only [vcs, eqV, nilV, Option.map_some, Nat.mul_one, implies_true, true_and, and_true, and_self]
    have hF15 := hF4.trans hf15
    have hb15 := hf15.keep hb4 id
    refine stC_one hb15 (by simp [msgC]) rfl fun w19 hb19 hf19 => ?_
    have hb19' : w19.heap[w.heap.size]? = some (.cells (msgC m qb cb).toArray 53 (0, 0)) := hb19
    have hF19 : Fm none' w w19 := hF15.trans' hf19 fun i hi e => by omega
    obtain ⟨N, hN⟩ : ∃ N, N = w.heap.size := ⟨_, rfl⟩
    rw [← hN] at hb19' ⊢
    have hc19 : Core w19.drew F A bl mk c wv sv := hc.keep (hF19.trans (Fm.drew w19)) fun _ _ _ _ _ _ => id
    have kA : w19.drew.cell? ⟨A, 1, none⟩ = some (.slice pw c.wait.length cw) := by rw [← hwv]; exact cellOf (w := w19.drew) hc19.box rfl
    have kM : cellsAt w19.drew ⟨N, 0, none⟩ 23 = some (msgC m qb cb) := cells_all (w := w19.drew) hb19' rfl
    have hAN : N ≠ A := by have := hc.lt A hc.fA; omega
    refine ⟨fun w' => Fm (fun i => wv.ownBlock = some i) w19.drew w', Fm.refl _ _, ?_⟩
    have hwA : ¬ wv.ownBlock = some A := fun hw => by
      obtain ⟨_, cur, hcur⟩ := own_block hc19.own hw
      have := hc19.box
      unfold BoxA at this
      rw [hcur] at this; cases this
    have hwN : ¬ wv.ownBlock = some N := fun hw => by have := hc.lt N (hc.fw N hw); omega
    refine rd_of kA ⟨fun w' hf => rd_of (hf.cell kA hwA) rfl, ?_⟩
    simp only [vcs, eqV, nilV, Option.map_some, Nat.mul_one, implies_true, true_and, and_true, and_self]
    refine rd_of kM ⟨fun w' hf => rd_of (hf.cells hwN kM) rfl, ?_⟩
    refine rd_of (v := ()) rfl ⟨fun w' hf => rd_of (v := ()) rfl trivial, ?_⟩
    refine rd_of (v := ()) rfl ?_
    refine allocC_of fun w43 hb43 hs43 hf43 => ?_
    obtain ⟨K, hK⟩ : ∃ K, K = w19.drew.heap.size := ⟨_, rfl⟩
    rw [← hK] at hb43 ⊢
    have hb43' : w43.heap[K]? = some (.cells (wtC m qb cb false).toArray 100 (0, 0)) := hb43
    refine ⟨hf43.none, ?_⟩
    refine build_1 (by rw [row74]) row98 rfl rfl fun w45 hb45 hs45 hf45 => ?_
    simp only [vcs, eqV, nilV, Option.map_some, Nat.mul_one, implies_true, true_and, and_true, and_self]
    refine ⟨(hf43.trans hf45).none, ?_⟩
    have hown45 : w45.ownsRow 0 98 1 (.slice pw c.wait.length cw) c.wait.length (ptrs bl (c.wait.map (·.1))) := by
      rw [← hwv]
      exact (hf43.trans hf45).owns hc19.own fun _ _ => id
    have hmany := hc.many
    refine append_r (ys := [.pointer (some ⟨K, 0, none⟩)]) (by rw [row74]) row98 rfl hown45 rfl (by simp [Value.oneCell']) (fun j y hj => ?_) (Nat.zero_le _) (by simp only [maxLen]; omega) (by omega) fun p' c' w50 ho50 hf50 hblk50 => ?_
    · match j, hj with
      | 0, hj =>
        simp at hj; subst hj
        exact ⟨_, rfl, by rw [addr_add]; exact cellOf hb45 rfl⟩
    simp only [vcs, eqV, nilV, Option.map_some, Nat.mul_one, implies_true, true_and, and_true, and_self]
    rw [← hwv] at hf50 hblk50
    have hF50 : Fm (fun i => wv.ownBlock = some i) w19.drew w50 := (hf43.trans hf45).none.trans hf50
    refine ⟨hF50, ?_⟩
    have hbox50 := hF50.keep hc19.box hwA
    refine stC_one hbox50 (by simp) rfl fun w54 hb54 hf54 => ?_
    have hblkne : ∀ i C t, w50.heap[i]? = some (.cells C t (0, 0)) → t ≠ 79 → ¬ i = A := by
      rintro i C t hi ht rfl
      rw [hbox50] at hi; cases hi; exact ht rfl
    obtain ⟨F', hF'⟩ : ∃ F', F' = FNew F w w54 := ⟨_, rfl⟩
    have hs43' : w43.heap.size = K + 1 := by rw [hK]; exact hs43
    have hKw : w.heap.size ≤ K := by rw [hK]; exact (hF19.trans (Fm.drew w19)).size
    have hs45' : w45.heap.size = K + 2 := by rw [hs45, hs43']
    have h50 := hf50.size
    have h54 := hf54.size
    have hwB : ∀ i, wv.ownBlock = some i → i < w.heap.size := fun i hi => hc.lt i (hc.fw i hi)
    have hFall : Fm F w w54 := (((hF19.trans (Fm.drew w19)).none.trans (hF50.mono fun i _ hi => hc.fw i hi)).trans (hf54.mono fun i _ e => e ▸ hc.fA))
    have hsub : ∀ i, F i → F' i := fun i hi => by rw [hF']; exact .inl hi
    have hnew : ∀ i, w.heap.size ≤ i → i < w54.heap.size → F' i := fun i h1 h2 => by rw [hF']; exact .inr ⟨h1, h2⟩
    have hblK : ∀ i, i < c.pushed → bl i < w.heap.size := fun i hi => hc.lt _ (hc.ids i hi).1
    -- the new number's block
    obtain ⟨bl', hbl'⟩ : ∃ bl' : Nat → Nat, bl' = fun i => if i = c.pushed then K else bl i := ⟨_, rfl⟩
    have hblo : ∀ i, i < c.pushed → bl' i = bl i := fun i hi => by rw [hbl']; exact if_neg (by omega)
    have hbln : bl' c.pushed = K := by rw [hbl']; exact if_pos rfl
    obtain ⟨mk', hmk'⟩ : ∃ mk' : Nat → Bool, mk' = fun i => if i = c.pushed then false else mk i := ⟨_, rfl⟩
    have hmko : ∀ i, i < c.pushed → mk' i = mk i := fun i hi => by rw [hmk']; exact if_neg (by omega)
    have hmkn : mk' c.pushed = false := by rw [hmk']; exact if_pos rfl
    have hpo : ∀ ids : List Nat, (∀ i ∈ ids, i < c.pushed) → ptrs bl' ids = ptrs bl ids := fun ids h => ptrs_congr fun i hi => hblo i (h i hi)
    have hwlt : ∀ i ∈ c.wait.map (·.1), i < c.pushed := fun i hi => by
      obtain ⟨x, hx, rfl⟩ := List.mem_map.1 hi
      exact (hc.msgs x hx).1
    have keepF : ∀ (i : Nat) (C : Array Value) (t : TypeId), w19.drew.heap[i]? = some (Obj.cells C t (0, 0)) → t ≠ 79 → t ≠ 98 → w54.heap[i]? = some (Obj.cells C t (0, 0)) := fun i C t hi h1 h2 => by
      have hn : ¬ wv.ownBlock = some i := fun hw => by
        obtain ⟨_, cur, hcur⟩ := own_block hc19.own hw
        rw [hi] at hcur; cases hcur; exact h2 rfl
      exact hf54.keep (hF50.keep hi hn) (hblkne i C t (hF50.keep hi hn) h1)
    have hK54 : w54.heap[K]? = some (.cells (wtC m qb cb false).toArray 100 (0, 0)) := by
      have hk50 : w50.heap[K]? = some (.cells (wtC m qb cb false).toArray 100 (0, 0)) := hf50.keep (hf45.keep hb43' id) fun hw => by have := hwB K hw; omega
      exact hf54.keep hk50 (hblkne _ _ _ hk50 (by decide))
    have hvb : (Value.slice p' (c.wait.length + 1) c').ownBlock = wv.ownBlock ∨ ∃ i, (Value.slice p' (c.wait.length + 1) c').ownBlock = some i ∧ w.heap.size ≤ i ∧ i < w54.heap.size := by
      rcases hblk50 with h | h
      · exact .inl h
      · have := own_block ho50 h
        obtain ⟨_, cur, hcur⟩ := this
        exact .inr ⟨_, h, by omega, by have := lt_of_blk hcur; omega⟩
    rw [← hF']
    refine ⟨⟨bl', mk', .slice p' (c.wait.length + 1) c', sv, hs, ⟨hb54, hsub A hc.fA, fun i hi => hfn w54 hFall.size i (hF' ▸ hi), hc.wok, hc.next, hc.heard, hc.rtt, ?_, ?_, ?_, ?_, ?_, ?_⟩, ?_, ?_⟩, hFall⟩
    · have hf : w54.ownsRow 0 98 1 (.slice p' (c.wait.length + 1) c') (c.wait.length + 1) (ptrs bl (c.wait.map (·.1)) ++ [.pointer (some ⟨K, 0, none⟩)]) := by
        refine hf54.owns ho50 fun i hi => ?_
        obtain ⟨_, cur, hcur⟩ := own_block ho50 hi
        exact hblkne i _ _ hcur (by decide)
      have e1 : ptrs bl' ((c.wait ++ [(c.pushed, m)]).map (·.1)) = ptrs bl (c.wait.map (·.1)) ++ [.pointer (some ⟨K, 0, none⟩)] := by
        rw [List.map_append]
        have : ptrs bl' (c.wait.map (·.1) ++ [c.pushed]) = ptrs bl' (c.wait.map (·.1)) ++ ptrs bl' [c.pushed] := by unfold ptrs; rw [List.flatMap_append]
        show ptrs bl' (c.wait.map (·.1) ++ [c.pushed]) = _
        rw [this, hpo _ hwlt]
        congr 1
        simp [ptrs, ptr1, adOf, hbln]
      show w54.ownsRow 0 98 1 _ (c.wait ++ [(c.pushed, m)]).length (ptrs bl' ((c.wait ++ [(c.pushed, m)]).map (·.1)))
      rw [e1, List.length_append]
      exact hf
    · intro i hi
      rw [hF']
      rcases hvb with h | ⟨j, h, h1, h2⟩
      · rw [h] at hi; exact .inl (hc.fw i hi)
      · rw [h] at hi; cases hi; exact .inr ⟨h1, h2⟩
    · intro i hi
      by_cases hic : i = c.pushed
      · subst hic
        rw [hbln, hmkn]
        exact ⟨hnew K hKw (by omega), msgC m qb cb, rfl, hK54⟩
      · have hi' : i < c.pushed := by have : i < c.pushed + 1 := hi; omega
        obtain ⟨h1, cs, h2, h3⟩ := hc19.ids i hi'
        rw [hblo i hi', hmko i hi']
        exact ⟨hsub _ h1, cs, h2, keepF _ _ _ h3 (by decide) (by decide)⟩
    · intro i j hi hj hij
      have hi' : i < c.pushed + 1 := hi
      have hj' : j < c.pushed + 1 := hj
      by_cases h1 : i = c.pushed
      · by_cases h2 : j = c.pushed
        · omega
        · rw [h1, hbln, hblo j (by omega)] at hij
          have := hblK j (by omega); omega
      · by_cases h2 : j = c.pushed
        · rw [h2, hbln, hblo i (by omega)] at hij
          have := hblK i (by omega); omega
        · rw [hblo i (by omega), hblo j (by omega)] at hij
          exact hc.inj i j (by omega) (by omega) hij
    · intro x hx
      rcases List.mem_append.1 hx with hx | hx
      · obtain ⟨h1, h2, q, cq, h3, h4⟩ := hc19.msgs x hx
        rw [hblo _ h1, hmko _ h1]
        refine ⟨Nat.lt_succ_of_lt h1, h2, q, cq, keepF _ _ _ h3 (by decide) (by decide), ?_⟩
        have h5 : OwnB w54 F q cq x.2.bytes := h4.keep (S := fun i => wv.ownBlock = some i ∨ i = A) ((hF50.mono fun i _ e => .inl e).trans (hf54.mono fun i _ e => .inr e)) (by
          rintro i C hi _ (hw | rfl)
          · obtain ⟨_, cur, hcur⟩ := own_block hc19.own hw
            rw [hi] at hcur; cases hcur
          · have := hc19.box
            unfold BoxA at this
            rw [hi] at this; cases this)
        exact h5.mono hsub
      · obtain rfl : x = (c.pushed, m) := by simpa using hx
        simp only [hbln, hmkn]
        refine ⟨Nat.lt_succ_self _, hok, qb, cb, hK54, ?_, ?_⟩
        · have o19 : w19.drew.ownsRow 0 5 1 (.slice qb m.bytes.length cb) m.bytes.length (m.bytes.map (Value.int .u8)) := own_base ((hf19.owns hob fun i hi e => by
            have := hbn i hi
            obtain ⟨_, cur, hcur⟩ := own_block hob hi
            rw [e, hb15] at hcur; cases hcur)) (Nat.zero_le _)
          have o50 := hF50.owns o19 fun i hi hw => by
            obtain ⟨_, cur, hcur⟩ := own_block hc19.own hw
            obtain ⟨_, cur2, hcur2⟩ := own_block o19 hi
            rw [hcur] at hcur2; cases hcur2
          refine hf54.owns o50 fun i hi => ?_
          obtain ⟨_, cur, hcur⟩ := own_block o50 hi
          exact hblkne i _ _ hcur (by decide)
        · intro i hi
          have h1 := hbn i hi
          obtain ⟨_, cur, hcur⟩ := own_block hob hi
          have h2 := lt_of_blk hcur
          have h3 := hF4.size
          have h5 := hf19.size
          have h6 : K = w19.heap.size := hK
          exact hnew i (by omega) (by omega)
    · show (c.wait ++ [(c.pushed, m)]).length ≤ 64
      rw [List.length_append]
      have : c.wait.length ≠ 64 := by omega
      simp; omega
    · have hS19 : SentAt w19.drew F bl c.pushed c.sent wv sv hs := hS.keep (hF19.trans (Fm.drew w19)) fun _ _ _ _ _ _ => id
      have hS50 := hS19.keep hF50 fun i C t hi _ ht => by
        rcases ht with rfl | ⟨rfl, h⟩
        · intro hw
          obtain ⟨_, cur, hcur⟩ := own_block hc19.own hw
          rw [hi] at hcur; cases hcur
        · exact h
      have hS54 := hS50.keep hf54 fun i C t hi _ ht => hblkne i C t hi (by rcases ht with rfl | ⟨rfl, _⟩ <;> decide)
      refine ⟨hS54.len, hS54.own, fun i hi => hsub i (hS54.fs i hi), fun j e hv he hh => ?_, hS54.rng⟩
      have hh' := hS54.has j e hv he hh
      refine ⟨by rw [hpo _ hh'.lt]; exact hh'.own, fun i hi => ⟨hsub i (hh'.inF i hi).1, ?_⟩, fun i hi => Nat.lt_succ_of_lt (hh'.lt i hi)⟩
      rcases hvb with h | ⟨k, h, h1, h2⟩
      · rw [h]; exact (hh'.inF i hi).2
      · rw [h]
        intro e
        cases e
        have := hc.lt i (hh'.inF i hi).1
        omega
    · intro x hx
      rcases List.mem_append.1 hx with hx | hx
      · rw [hmko _ (hc.msgs x hx).1]; exact hmk x hx
      · obtain rfl : x = (c.pushed, m) := by simpa using hx
        exact hmkn
end
end Go.Proofs.YtipikchkbmgloaaDoor
namespace Go.Proofs.YtipikchkbmgloaaDoor
set_option linter.unusedSimpArgs false
set_option linter.unusedVariables false
open Go Go.RowKit VC
variable {w : World}
def dgCs (d : Dg) (p : Option Addr) (c : Nat) : Array Value := #[.int .u16 d.seq, .bool d.any, .int .u16 d.last, .int .u32 d.bits, .slice p d.list.length c]
structure DgAt (W : World) (B D : Nat) (d : Dg) (p : Option Addr) (c : Nat) : Prop where
  blk : W.heap[D]? = some (.cells (dgCs d p c) 32 (0, 0))
  rows : RowMsgs W B B (.slice p d.list.length c) d.list
theorem DgAt.keep {W W' : World} {B D : Nat} {d : Dg} {p : Option Addr} {c : Nat} (h : DgAt W B D d p c) (f : Fm none' W W') : DgAt W' B D d p c := ⟨f.keep h.blk id, h.rows.keep f fun _ _ => id⟩
theorem fitN_split (d : Dg) : ∀ (ms : List Msg) (j : Nat), fitN d ms = j + fitN { d with list := d.list ++ ms.take j } (ms.drop j) → ∀ m, ms[j]? = some m → (encD { d with list := d.list ++ ms.take j ++ [m] }).2 = 0 →
    fitN d ms = (j + 1) + fitN { d with list := d.list ++ ms.take (j + 1) } (ms.drop (j + 1)) := by
  intro ms j h m hm hok
  have hj : j < ms.length := (List.getElem?_eq_some_iff.1 hm).1
  have e1 : ms.drop j = m :: ms.drop (j + 1) := by
    rw [List.drop_eq_getElem_cons hj]
    congr 1
    exact (List.getElem?_eq_some_iff.1 hm).2
  have e2 : ms.take (j + 1) = ms.take j ++ [m] := by rw [List.take_add_one, hm]; rfl
  rw [h, e1, fitN, if_pos hok, e2, ← List.append_assoc]
  show j + (fitN { d with list := d.list ++ ms.take j ++ [m] } (ms.drop (j + 1)) + 1) = _
  omega
theorem fitN_stop (d : Dg) : ∀ (ms : List Msg) (j : Nat), fitN d ms = j + fitN { d with list := d.list ++ ms.take j } (ms.drop j) → ∀ m, ms[j]? = some m → (encD { d with list := d.list ++ ms.take j ++ [m] }).2 ≠ 0 → fitN d ms = j := by
  intro ms j h m hm hok
  have hj : j < ms.length := (List.getElem?_eq_some_iff.1 hm).1
  have e1 : ms.drop j = m :: ms.drop (j + 1) := by
    rw [List.drop_eq_getElem_cons hj]
    congr 1
    exact (List.getElem?_eq_some_iff.1 hm).2
  rw [h, e1, fitN, if_neg hok]
  rfl
theorem fitN_le (d : Dg) : ∀ (ms : List Msg), fitN d ms ≤ ms.length := by
  intro ms
  induction ms generalizing d with
  | nil => exact Nat.le_refl _
  | cons m ms ih =>
    unfold fitN
    split
    · have := ih { d with list := d.list ++ [m] }
      rw [List.length_cons]; omega
    · omega
section
variable {F : Nat → Prop} {A : Nat} {bl : Nat → Nat} {mk : Nat → Bool} {c : Ch} {wv sv : Value}
set_option maxRecDepth 20000 in
set_option maxHeartbeats 4000000 in
theorem pack17_c {l : List Msg} {p : Option Addr} {cp now N : Nat} (hH : Halves w) (h : ChAt w F A c) (hm : MsgsAt w N p l) (hN : N ≤ w.heap.size) (hok : Msok l) (hll : l.length ≤ 900) (hnow : now < 4294967296) (hsl : c.sent.length < 64) :
    callV Tryd.prog 17 [.pointer (some ⟨A, 0, none⟩), .slice p l.length cp, .int .u32 now] w fun v w' =>
      ∃ q e F', v = .tuple #[.slice q (packC c l now).1.1.length e, .int .i64 (packC c l now).1.2] ∧
        w'.ownsRow w.heap.size 5 1 (.slice q (packC c l now).1.1.length e) (packC c l now).1.1.length ((packC c l now).1.1.map (Value.int .u8)) ∧ (∀ i, (Value.slice q (packC c l now).1.1.length e).ownBlock = some i → ¬ F' i) ∧
        ChAt w' F' A (packC c l now).2 ∧ (∀ i, F' i → F i ∨ w.heap.size ≤ i) ∧ Fm F w w' := by
  obtain ⟨bl, mk, wv, sv, hs, hc, hS, hmk⟩ := h
  obtain ⟨d, hd⟩ : ∃ d, d = packDg c l := ⟨_, rfl⟩
  have hdok : ∀ l', Dok { d with list := l' } := by
    intro l'
    have hw := hc.wok
    have hn := hc.next
    rw [hd]
    refine ⟨hn, ?_, ?_⟩
    · show (if c.win.any = true then c.win.last else 0) < 65536
      split
      · exact hw.last
      · omega
    · show (if c.win.any = true then c.win.bits else 0) < 4294967296
      split
      · exact hw.bits
      · omega
  have hdl : d.list = l := by rw [hd]; rfl
  have hB : ∀ i, F i → i < w.heap.size := hc.lt
  refine vc17 ⟨A, 0, none⟩ p l.length cp now w _ ?_
  have hcd : Core w.drew F A bl mk c wv sv := hc.keep (Fm.drew w) fun _ _ _ _ _ _ => id
  have hboxk : ∀ W, Fm none' w.drew W → BoxA W A (.int .u16 c.next) wv sv c.win (.int .i64 c.rtt) (.bool c.timed) (.int .u32 c.heard) := fun W hf => hf.keep hcd.box id
  refine ⟨fun u W => ∃ D q e, u 8 = .pointer (some ⟨D, 0, none⟩) ∧ w.heap.size ≤ D ∧ W.heap[D]? = some (.cells #[.int .u16 c.next, .bool c.win.any, .int .u16 0, .int .u32 0, .slice q l.length e] 32 (0, 0)) ∧ RowMsgs W w.heap.size w.heap.size (.slice q l.length e) l ∧ Fm none' w.drew W, ?_, ?_⟩
  · -- the head
    refine ⟨fun W => Fm none' w.drew W, Fm.refl _ _, ?_⟩
    have k0 : ∀ W, Fm none' w.drew W → W.cell? ⟨A, 0, none⟩ = some (.int .u16 c.next) := fun W hf => cellOf (hboxk W hf) rfl
    simp only [vcs, eqV, nilV, Option.map_some, Nat.mul_one, implies_true, true_and, and_true, and_self]
    refine rd_of (v := .int .u16 c.next) (k0 w.drew (Fm.refl _ _)) ⟨fun W hf => rd_of (v := .int .u16 c.next) (k0 W hf) rfl, ?_⟩
    simp only [vcs, eqV, nilV, Option.map_some, Nat.mul_one, implies_true, true_and, and_true, and_self]
    simp only [addr_add, Nat.zero_add]
    have any : ∀ W, Fm none' w.drew W → callV Tryd.prog 37 [.pointer (some ⟨A, 3, none⟩)] W fun v w' => v = .bool c.win.any ∧ w' = W := fun W hf => any37_c (hboxk W hf).win
    have clone : ∀ W, Fm none' w.drew W → callV Tryd.prog 38 [.slice p l.length cp] W fun v w' => ∃ q e, v = .slice q l.length e ∧ RowMsgs w' w.heap.size w.heap.size (.slice q l.length e) l ∧ Fm none' W w' := fun W hf => by
      have hsz : w.heap.size ≤ W.heap.size := hf.size
      refine (clone38_c (c := cp) (hm.keep ((Fm.drew w).trans hf) fun _ _ => id) (Nat.le_trans hN hsz) (by omega)).mono ?_
      rintro v w' ⟨hr, hf'⟩
      obtain ⟨q, e, rfl⟩ := rowSl hr
      obtain ⟨qs, a1, a2, a3⟩ := hr.base hsz
      exact ⟨q, e, rfl, ⟨qs, a1, a2, fun j m q' hj hq => ⟨(a3 j m q' hj hq).1, fun ad e hne => Nat.lt_of_lt_of_le ((a3 j m q' hj hq).2 ad e hne) hN⟩⟩, hf'⟩
    have fin : ∀ (D : Nat) (W : World) (q : Option Addr) (e : Nat), w.heap.size ≤ D → W.heap[D]? = some (.cells #[.int .u16 0, .bool false, .int .u16 0, .int .u32 0, .slice none 0 0] 32 (0, 0)) → RowMsgs W w.heap.size w.heap.size (.slice q l.length e) l → Fm none' w.drew W →
        stC W ⟨D, 0, none⟩ [.int .u16 c.next, .bool c.win.any, .int .u16 0, .int .u32 0, .slice q l.length e] fun W' => ∃ D' q' e', alist [(8, .pointer (some ⟨D, 0, none⟩))] 8 = .pointer (some ⟨D', 0, none⟩) ∧ w.heap.size ≤ D' ∧ W'.heap[D']? = some (.cells #[.int .u16 c.next, .bool c.win.any, .int .u16 0, .int .u32 0, .slice q' l.length e'] 32 (0, 0)) ∧ RowMsgs W' w.heap.size w.heap.size (.slice q' l.length e') l ∧ Fm none' w.drew W' := by
      intro D W q e hD hb hr hf
      refine stC_all hb rfl (fun v hv => by simp at hv; rcases hv with rfl | rfl | rfl | rfl | rfl <;> rfl) fun W' hb' hf' => ?_
      refine ⟨D, q, e, rfl, hD, hb', ?_, hf.trans' hf' fun i hi e => by have h0 : w.drew.heap.size = w.heap.size := rfl; omega⟩
      obtain ⟨qs, a1, a2, a3⟩ := hr
      have ne : ∀ i C t, W.heap[i]? = some (.cells C t (0, 0)) → t ≠ 32 → ¬ i = D := by
        rintro i C t hi ht rfl
        rw [hb] at hi; cases hi; exact ht rfl
      refine ⟨qs, a1, hf'.owns a2 fun i hi => ?_, fun j m q' hj hq => ⟨(a3 j m q' hj hq).1.keepN hf' fun ad e hne hi => ?_, (a3 j m q' hj hq).2⟩⟩
      · obtain ⟨_, cur, hcur⟩ := own_block a2 hi
        exact ne i _ _ hcur (by decide)
      · have := (a3 j m q' hj hq).2 ad e hne
        omega
    have al : ∀ (W : World) (K : Nat → World → Prop), Fm none' w.drew W → (∀ D W1, W1.heap[D]? = some (.cells #[.int .u16 0, .bool false, .int .u16 0, .int .u32 0, .slice none 0 0] 32 (0, 0)) → w.heap.size ≤ D → Fm none' w.drew W1 → Fm none' W W1 → K D W1) →
        allocC W (.cells #[.int .u16 0, .bool false, .int .u16 0, .int .u32 0, .slice none 0 0] 32 (0, 0)) K := by
      intro W K hF k
      refine allocC_of fun W1 h1 _ h3 => ?_
      exact k _ W1 h1 hF.size (hF.trans h3) h3
    refine ⟨(any _ (Fm.refl _ _)).mono ?_, al _ _ (Fm.refl _ _) fun D W1 hb1 hD hF1 _ => ⟨hF1, (any _ hF1).mono ?_⟩⟩
    · rintro _ _ ⟨rfl, rfl⟩
      simp only [vcs, eqV, nilV, Option.map_some, Nat.mul_one, implies_true, true_and, and_true, and_self]
      refine ⟨Fm.refl _ _, (clone _ (Fm.refl _ _)).mono ?_, al _ _ (Fm.refl _ _) fun D W1 hb1 hD hF1 _ => ⟨hF1, (clone _ hF1).mono ?_⟩⟩
      · rintro _ W2 ⟨q, e, rfl, hr, hf⟩
        simp only [vcs, eqV, nilV, Option.map_some, Nat.mul_one, implies_true, true_and, and_true, and_self]
        refine ⟨hf, al _ _ hf fun D W1 hb1 hD hF1 hf1 => ⟨hF1, fin D W1 q e hD hb1 (hr.keep hf1 fun _ _ => id) hF1⟩⟩
      · rintro _ W2 ⟨q, e, rfl, hr, hf⟩
        simp only [vcs, eqV, nilV, Option.map_some, Nat.mul_one, implies_true, true_and, and_true, and_self]
        exact ⟨hF1.trans hf, fin D W2 q e hD (hf.keep hb1 id) hr (hF1.trans hf)⟩
    · rintro _ _ ⟨rfl, rfl⟩
      simp only [vcs, eqV, nilV, Option.map_some, Nat.mul_one, implies_true, true_and, and_true, and_self]
      refine ⟨hF1, (clone _ hF1).mono ?_⟩
      rintro _ W2 ⟨q, e, rfl, hr, hf⟩
      simp only [vcs, eqV, nilV, Option.map_some, Nat.mul_one, implies_true, true_and, and_true, and_self]
      exact ⟨hF1.trans hf, fin D W2 q e hD (hf.keep hb1 id) hr (hF1.trans hf)⟩
  rintro u w59 ⟨D, q0, e0, h8, hD, hb59, hr59, hf59⟩
  change u 8 = _ at h8
  have hF59 : Fm none' w w59 := (Fm.drew w).trans hf59
  have h0 : w.drew.heap.size = w.heap.size := rfl
  simp only [h8, vcs, eqV, nilV, Option.map_some, Nat.mul_one, implies_true, true_and, and_true, and_self]
  refine ⟨fun _ W => DgAt W w.heap.size D d q0 e0 ∧ Fm none' w W, ?_, ?_⟩
  · -- the acknowledgement
    have k1 : w59.cell? ((⟨D, 0, none⟩ : Addr).add 1) = some (.bool c.win.any) := by rw [addr_add]; exact cellOf hb59 rfl
    simp only [k1, vcs, eqV, nilV, Option.map_some, Nat.mul_one, implies_true, true_and, and_true, and_self]
    cases ha : c.win.any with
    | false =>
      simp only [vcs, eqV, nilV, Option.map_some, Nat.mul_one, implies_true, true_and, and_true, and_self]
      refine ⟨⟨?_, ?_⟩, hF59⟩
      · have e1 : dgCs d q0 e0 = #[.int .u16 c.next, .bool c.win.any, .int .u16 0, .int .u32 0, .slice q0 l.length e0] := by
          unfold dgCs
          rw [hd]
          simp only [packDg, ha]
          rfl
        rw [e1]; exact hb59
      · rw [hdl]; exact hr59
    | true =>
      simp only [vcs, eqV, nilV, Option.map_some, Nat.mul_one, implies_true, true_and, and_true, and_self]
      simp only [addr_add, Nat.zero_add]
      refine (ack39_c (hboxk _ hf59).win).mono ?_
      rintro _ _ ⟨rfl, rfl⟩
      simp only [vcs, eqV, nilV, Option.map_some, Nat.mul_one, implies_true, true_and, and_true, and_self, List.getElem?_toArray, List.getElem?_cons_zero, List.getElem?_cons_succ]
      refine stC_one (w := w59.drew) hb59 (by simp) rfl fun w74 hb74 hf74 => ?_
      refine stC_one hb74 (by simp) rfl fun w76 hb76 hf76 => ?_
      have hf : Fm (fun i => i = D) w59 w76 := ((Fm.drew w59).none.trans hf74).trans hf76
      refine ⟨⟨?_, ?_⟩, hF59.trans' hf fun i hi e => by omega⟩
      · have e1 : dgCs d q0 e0 = #[.int .u16 c.next, .bool c.win.any, .int .u16 c.win.last, .int .u32 c.win.bits, .slice q0 l.length e0] := by
          unfold dgCs
          rw [hd]
          simp only [packDg, ha]
          rfl
        rw [e1]; exact hb76
      · rw [hdl]
        obtain ⟨qs, a1, a2, a3⟩ := hr59
        refine ⟨qs, a1, hf.owns a2 fun i hi => ?_, fun j m q' hj hq => ⟨(a3 j m q' hj hq).1.keepN hf fun ad e hne hi => ?_, (a3 j m q' hj hq).2⟩⟩
        · obtain ⟨_, cur, hcur⟩ := own_block a2 hi
          rintro rfl
          rw [hb59] at hcur; cases hcur
        · have := (a3 j m q' hj hq).2 ad e hne
          omega
  rintro u2 w79 ⟨hdg79, hF79⟩
  refine rd_of (cells_all hdg79.blk rfl) ?_
  -- Encode of the datagram as it is built up
  have enc : ∀ (W : World) (l' : List Msg) (q : Option Addr) (e : Nat), DgAt W w.heap.size D { d with list := l' } q e → Fm none' w W → Msok l' → callV Tryd.prog 10 [.agg (dgCs { d with list := l' } q e).toList.toArray] W fun v w' => ∃ q' e', v = .tuple #[.slice q' (encD { d with list := l' }).1.length e', .int .i64 (encD { d with list := l' }).2] ∧
      w'.ownsRow w.heap.size 5 1 (.slice q' (encD { d with list := l' }).1.length e') (encD { d with list := l' }).1.length ((encD { d with list := l' }).1.map (Value.int .u8)) ∧ Fm none' W w' := by
    intro W l' q e hdg hF hok'
    have hr := (RowMsgs.at (p := q) hdg.rows hF.size).2
    refine (encode10_c (c := e) (hH.keep hF id) (hdok l') hr (Nat.le_refl _) hok').mono ?_
    rintro v w' ⟨q', e', rfl, ho, hf⟩
    exact ⟨q', e', rfl, own_base ho hF.size, hf⟩
  have hdself : ({ d with list := l } : Dg) = d := by rw [← hdl]
  have henc0 := enc w79 l q0 e0 (by rw [hdself]; exact hdg79) hF79 hok
  rw [hdself] at henc0
  refine henc0.mono ?_
  rintro _ w84 ⟨qb, eb, rfl, hob84, hf84⟩
  simp only [vcs, eqV, nilV, Option.map_some, Nat.mul_one, implies_true, true_and, and_true, and_self, List.getElem?_toArray, List.getElem?_cons_zero, List.getElem?_cons_succ]
  have hF84 := hF79.trans hf84
  refine br_ndec (fun he => ?_) (fun he => ?_)
  · have e1 : packC c l now = (([], (encD d).2), c) := by unfold packC; rw [← hd, if_pos he]
    rw [e1]
    exact ⟨none, 0, F, rfl, World.ownsRow_nil _ _ _ _, fun i hi => (by cases hi), ⟨bl, mk, wv, sv, hs, hc.keep hF84 fun _ _ _ _ _ _ => id, hS.keep hF84 fun _ _ _ _ _ _ => id, hmk⟩, fun i hi => .inl hi, hF84.none⟩
  have he0 : (encD d).2 = 0 := he
  have hc84 : Core w84 F A bl mk c wv sv := hc.keep hF84 fun _ _ _ _ _ _ => id
  have kN : w84.cell? ⟨A, 0, none⟩ = some (.int .u16 c.next) := cellOf hc84.box rfl
  refine rd_of kN ?_
  simp only [vcs, eqV, nilV, Option.map_some, Nat.mul_one, implies_true, true_and, and_true, and_self]
  refine allocC_of fun w96 hb96 hs96 hf96 => ?_
  obtain ⟨X, hX⟩ : ∃ X, X = w84.heap.size := ⟨_, rfl⟩
  rw [← hX] at hb96 ⊢
  have hXw : w.heap.size ≤ X := by rw [hX]; exact hF84.size
  refine stC_all hb96 rfl (fun v hv => by simp at hv; rcases hv with rfl | rfl | rfl <;> rfl) fun w97 hb97 hf97 => ?_
  have hf97' : Fm none' w84 w97 := hf96.trans' hf97 fun i hi e => by omega
  have hF97 : Fm none' w w97 := hF84.trans hf97'
  have hc97 : Core w97 F A bl mk c wv sv := hc.keep hF97 fun _ _ _ _ _ _ => id
  obtain ⟨ms, hms⟩ : ∃ ms, ms = c.wait.map (·.2) := ⟨_, rfl⟩
  have hml : ms.length = c.wait.length := by rw [hms, List.length_map]
  obtain ⟨ids, hids⟩ : ∃ ids, ids = c.wait.map (·.1) := ⟨_, rfl⟩
  have hil : ids.length = c.wait.length := by rw [hids, List.length_map]
  have hmany := hc.many
  have hidlt : ∀ i ∈ ids, i < c.pushed := fun i hi => by
    rw [hids] at hi
    obtain ⟨x, hx, rfl⟩ := List.mem_map.1 hi
    exact (hc.msgs x hx).1
  have hokj : ∀ j, Msok (l ++ ms.take j) := fun j => ⟨fun m hm => by
      rcases List.mem_append.1 hm with hm | hm
      · exact hok.ok m hm
      · rw [hms] at hm
        obtain ⟨x, hx, rfl⟩ := List.mem_map.1 (List.mem_of_mem_take hm)
        exact (hc.msgs x hx).2.1.ok, fun m hm => by
      rcases List.mem_append.1 hm with hm | hm
      · exact hok.len m hm
      · rw [hms] at hm
        obtain ⟨x, hx, rfl⟩ := List.mem_map.1 (List.mem_of_mem_take hm)
        have := (hc.msgs x hx).2.1.len
        omega, by rw [List.length_append, List.length_take]; omega⟩
  obtain ⟨pw, cw, hwv⟩ := hc.wvSl
  -- what holds when j messages have found room
  let J : Nat → World → Value → Prop := fun j W vb => ∃ qb eb hv, vb = .slice qb (encD { d with list := l ++ ms.take j }).1.length eb ∧ (encD { d with list := l ++ ms.take j }).2 = 0 ∧
    W.ownsRow w.heap.size 5 1 (.slice qb (encD { d with list := l ++ ms.take j }).1.length eb) (encD { d with list := l ++ ms.take j }).1.length ((encD { d with list := l ++ ms.take j }).1.map (Value.int .u8)) ∧
    W.heap[X]? = some (.cells #[.int .u16 c.next, .int .u32 now, hv] 97 (0, 0)) ∧ W.ownsRow w.heap.size 98 1 hv j (ptrs bl (ids.take j)) ∧ Fm none' w W
  refine ⟨fun u W => J (fitN d ms) W (u 9), ?_, ?_⟩
  · have k1 : w97.cell? ⟨A, 1, none⟩ = some (.slice pw c.wait.length cw) := by rw [← hwv]; exact cellOf hc97.box rfl
    simp only [addr_add, Nat.zero_add, k1, vcs, eqV, nilV, Option.map_some, Nat.mul_one, implies_true, true_and, and_true, and_self]
    refine ⟨fun u W => ∃ (j : Nat) (q : Option Addr) (e : Nat), j ≤ ms.length ∧ u 57 = .int .i64 j ∧ J j W (u 9) ∧ DgAt W w.heap.size D { d with list := l ++ ms.take j } q e ∧ fitN d ms = j + fitN { d with list := d.list ++ ms.take j } (ms.drop j), fun u _ => ms.length - (intOf (u 57)).toNat, ?_, ?_⟩
    · refine ⟨0, q0, e0, by omega, rfl, ⟨qb, eb, .slice none 0 0, ?_, ?_, ?_, hb97, World.ownsRow_nil _ _ _ _, hF97⟩, ?_, ?_⟩
      · simp only [List.take_zero, List.append_nil, hdself]; rfl
      · simp only [List.take_zero, List.append_nil, hdself]; exact he0
      · simp only [List.take_zero, List.append_nil, hdself]; exact hf97'.owns hob84 fun _ _ => id
      · simp only [List.take_zero, List.append_nil, hdself]; exact (hdg79.keep hf84).keep hf97'
      · simp
    rintro u w111 ⟨j, q, e, hj, h57, hJ, hdg, hfit⟩
    change u 57 = _ at h57
    obtain ⟨qj, ej, hv, h9, hej, hoj, hbX, hoh, hFj⟩ := id hJ
    change u 9 = _ at h9
    simp only [h57, vcs, eqV, nilV, Option.map_some, Nat.mul_one, implies_true, true_and, and_true, and_self]
    refine br_dec (fun hlt => ?_) (fun hge => ?_)
    · obtain ⟨x, hx⟩ : ∃ x, c.wait[j]? = some x := ⟨c.wait[j]'(by omega), by simp⟩
      have hmj : ms[j]? = some x.2 := by rw [hms, List.getElem?_map, hx]; rfl
      have hij : ids[j]? = some x.1 := by rw [hids, List.getElem?_map, hx]; rfl
      have hc111 : Core w111 F A bl mk c wv sv := hc.keep hFj fun _ _ _ _ _ _ => id
      obtain ⟨g, hg, hgF, hcell⟩ : ∃ g, pw = some ⟨g, 0, none⟩ ∧ F g ∧ w111.cell? ⟨g, j, none⟩ = some (.pointer (some ⟨bl x.1, 0, none⟩)) := by
        have ho := hc111.own
        rw [ptrs_map, hwv] at ho
        have hne : c.wait ≠ [] := by intro h; rw [h] at hx; simp at hx
        obtain ⟨g, cap, C, e', -, hrow, -⟩ := own_rowIn (enc := ptr1 fun x : Nat × Msg => adOf bl x.1) (k := 1) (fun _ => rfl) ho hne
        cases e'
        exact ⟨g, rfl, hc.fw g (by rw [hwv]; rfl), hrow.cell1 (Nat.zero_le _) (by omega) hx⟩
      rw [hg]
      simp only [addr_add, Nat.zero_add, Int.toNat_natCast, Nat.mul_one, hcell, vcs, eqV, nilV, Option.map_some, Nat.mul_one, implies_true, true_and, and_true, and_self]
      refine ⟨by omega, ?_⟩
      obtain ⟨L, hL⟩ : ∃ L, L = l ++ ms.take j := ⟨_, rfl⟩
      have hLl : L.length = l.length + j := by rw [hL, List.length_append, List.length_take]; omega
      have hLn : L ++ [x.2] = l ++ ms.take (j + 1) := by rw [hL, List.take_add_one, hmj, List.append_assoc]; rfl
      rw [← hL] at hdg
      obtain ⟨hbD, hrD⟩ := hdg
      obtain ⟨qs, hql, hro, hrq⟩ := hrD
      change qs.length = L.length at hql
      obtain ⟨rv, hrv⟩ : ∃ rv, rv = Value.slice q L.length e := ⟨_, rfl⟩
      change w111.ownsRow w.heap.size 53 23 (.slice q L.length e) L.length ((L.zip qs).flatMap fun x => msgC x.1 x.2.1 x.2.2) at hro
      have hbD' : w111.heap[D]? = some (.cells #[.int .u16 d.seq, .bool d.any, .int .u16 d.last, .int .u32 d.bits, .slice q L.length e] 32 (0, 0)) := hbD
      rw [← hrv] at hro
      have hrvb : ∀ i, rv.ownBlock = some i → w.heap.size ≤ i ∧ ∃ C, w111.heap[i]? = some (.cells C 53 (0, 0)) := fun i hi => own_block hro hi
      have rvD : ¬ rv.ownBlock = some D := fun h => by
        obtain ⟨_, C, hC⟩ := hrvb D h
        rw [hbD'] at hC; cases hC
      obtain ⟨hxl, hxok, qx, cqx, hbx, hbo⟩ := hc111.msgs x (List.mem_of_getElem? hx)
      have hblx : bl x.1 < w.heap.size := hB _ (hc.ids _ hxl).1
      have rvx : ¬ rv.ownBlock = some (bl x.1) := fun h => by have := (hrvb _ h).1; omega
      have kD : w111.drew.cell? ⟨D, 4, none⟩ = some (.slice q L.length e) := cellOf (w := w111.drew) hbD' rfl
      have kx : cellsAt w111.drew ⟨bl x.1, 0, none⟩ 23 = some (msgC x.2 qx cqx) := cells_row (w := w111.drew) (i := 0) (n := 23) hbx (by show 23 ≤ 24; omega)
      refine ⟨fun w' => Fm (fun i => rv.ownBlock = some i) w111.drew w', Fm.refl _ _, ?_⟩
      refine rd_of kD ⟨fun w' hf => rd_of (hf.cell kD rvD) rfl, ?_⟩
      simp only [vcs, eqV, nilV, Option.map_some, Nat.mul_one, implies_true, true_and, and_true, and_self]
      refine rd_of kx ⟨fun w' hf => rd_of (hf.cells rvx kx) rfl, ?_⟩
      refine build_Sg (by rw [row24]) row53 rfl (by omega) (by omega) rfl fun w142 hb142 hs142 hf142 => ?_
      simp only [vcs, eqV, nilV, Option.map_some, Nat.mul_one, implies_true, true_and, and_true, and_self]
      refine ⟨hf142.none, ?_⟩
      have hro142 : w142.ownsRow w.heap.size 53 23 (.slice q L.length e) L.length ((L.zip qs).flatMap fun x => msgC x.1 x.2.1 x.2.2) := by
        rw [← hrv]
        exact hf142.owns (w := w111.drew) hro fun _ _ => id
      have hsz111 := hFj.size
      have hsz142 : w111.heap.size ≤ w142.heap.size := hf142.size
      refine append_rS (m := 1) (ys := msgC x.2 qx cqx) (by rw [row24]) row53 rfl (by omega) hro142 rfl msgC_one (fun k y hy => ?_) (by omega) (by simp only [maxLen]; omega) (by omega) fun p' c' w147 ho147 hf147 hblk147 => ?_
      · exact ⟨_, _, rfl, by rw [Nat.zero_add]; exact cellOf hb142 (by simpa using hy)⟩
      simp only [vcs, eqV, nilV, Option.map_some, Nat.mul_one, implies_true, true_and, and_true, and_self]
      rw [← hrv] at hf147
      have hf147' : Fm (fun i => rv.ownBlock = some i) w111.drew w147 := hf142.none.trans hf147
      refine ⟨hf147', ?_⟩
      have hbD147 := hf147'.keep (w := w111.drew) hbD' rvD
      refine stC_one hbD147 (by simp) rfl fun w152 hb152 hf152 => ?_
      have hbD152 : w152.heap[D]? = some (.cells (dgCs { d with list := L ++ [x.2] } p' c') 32 (0, 0)) := by
        have e1 : dgCs { d with list := L ++ [x.2] } p' c' = #[.int .u16 d.seq, .bool d.any, .int .u16 d.last, .int .u32 d.bits, .slice p' (L.length + 1) c'] := by
          unfold dgCs
          simp only [List.length_append, List.length_cons, List.length_nil, Nat.zero_add]
        rw [e1]; exact hb152
      refine rd_of (cells_all hbD152 rfl) ?_
      have hfD : Fm (fun i => rv.ownBlock = some i ∨ i = D) w111 w152 := ((Fm.drew w111).none.trans (hf147'.mono fun i _ h => .inl h)).trans (hf152.mono fun i _ h => .inr h)
      have hF152 : Fm none' w w152 := hFj.trans' hfD fun i hi h => by
        rcases h with h | h
        · have := (hrvb i h).1; omega
        · omega
      have hpn : (Value.slice p' (L.length + 1) c').ownBlock ≠ some D := fun h => by
        obtain ⟨_, cur, hcur⟩ := own_block ho147 h
        rw [hbD147] at hcur; cases hcur
      have hdg152 : DgAt w152 w.heap.size D { d with list := L ++ [x.2] } p' c' := by
        refine ⟨hbD152, ?_⟩
        have hlen1 : (L ++ [x.2]).length = L.length + 1 := by simp
        show RowMsgs w152 w.heap.size w.heap.size (.slice p' (L ++ [x.2]).length c') (L ++ [x.2])
        rw [hlen1]
        refine ⟨qs ++ [(qx, cqx)], by simp [hql], ?_, ?_⟩
        · have e1 : ((L ++ [x.2]).zip (qs ++ [(qx, cqx)])).flatMap (fun x => msgC x.1 x.2.1 x.2.2) = (L.zip qs).flatMap (fun x => msgC x.1 x.2.1 x.2.2) ++ msgC x.2 qx cqx := by
            rw [List.zip_append hql.symm, List.flatMap_append]
            simp
          rw [hlen1, e1]
          refine hf152.owns ho147 fun i hi hiD => ?_
          rw [hiD] at hi
          exact hpn hi
        · intro k m q' hk hq
          have hkl : k < L.length + 1 := by have := (List.getElem?_eq_some_iff.1 hk).1; rw [hlen1] at this; exact this
          by_cases hkj : k < L.length
          · rw [List.getElem?_append_left hkj] at hk
            rw [List.getElem?_append_left (by omega)] at hq
            obtain ⟨b1, b2⟩ := hrq k m q' hk hq
            refine ⟨b1.keepN hfD fun ad e1 hne h => ?_, b2⟩
            have := b2 ad e1 hne
            rcases h with h | h
            · have := (hrvb _ h).1; omega
            · omega
          · have hkk : k = L.length := by omega
            subst hkk
            rw [List.getElem?_append_right (by omega)] at hk
            rw [List.getElem?_append_right (by omega), hql] at hq
            simp at hk hq
            subst hk hq
            have hin : ∀ ad, qx = some ad → ad.block < w.heap.size := fun ad e1 => hB _ (hbo.2 ad.block (by rw [e1]; rfl))
            refine ⟨(BytesAt.of_own hbo.1).keep hfD fun ad e1 h => ?_, fun ad e1 _ => hin ad e1⟩
            have := hin ad e1
            rcases h with h | h
            · have := (hrvb _ h).1; omega
            · omega
      have hLok : Msok (L ++ [x.2]) := by rw [hLn]; exact hokj _
      refine (enc w152 (L ++ [x.2]) p' c' hdg152 hF152 hLok).mono ?_
      rintro _ w156 ⟨q2, e2, rfl, ho2, hf156⟩
      simp only [vcs, eqV, nilV, Option.map_some, Nat.mul_one, implies_true, true_and, and_true, and_self, List.getElem?_toArray, List.getElem?_cons_zero, List.getElem?_cons_succ]
      have hfall : Fm (fun i => rv.ownBlock = some i ∨ i = D) w111 w156 := hfD.trans (hf156.mono fun _ _ h => h.elim)
      have hF156 : Fm none' w w156 := hF152.trans hf156
      have hno : ∀ (i : Nat) (C : Array Value) (t : TypeId), w111.heap[i]? = some (Obj.cells C t (0, 0)) → t ≠ 53 → t ≠ 32 → ¬ (rv.ownBlock = some i ∨ i = D) := by
        rintro i C t hi h1 h2 (h | rfl)
        · obtain ⟨_, C', hC'⟩ := hrvb i h
          rw [hi] at hC'; cases hC'; exact h1 rfl
        · rw [hbD'] at hi; cases hi; exact h2 rfl
      have hbX156 := hfall.keep hbX (hno _ _ _ hbX (by decide) (by decide))
      have hoh156 := hfall.owns hoh fun i hi => by
        obtain ⟨_, cur, hcur⟩ := own_block hoh hi
        exact hno i _ _ hcur (by decide) (by decide)
      have hoj156 := hfall.owns hoj fun i hi => by
        obtain ⟨_, cur, hcur⟩ := own_block hoj hi
        exact hno i _ _ hcur (by decide) (by decide)
      have hdL : d.list ++ ms.take j = L := by rw [hdl, hL]
      refine br_ndec (fun hne => ?_) (fun hz => ?_)
      · have hstop := fitN_stop d ms j hfit x.2 hmj (by rw [hdL]; exact hne)
        rw [hstop]
        exact ⟨qj, ej, hv, h9, hej, hoj156, hbX156, hoh156, hF156⟩
      have hsplit := fitN_split d ms j hfit x.2 hmj (by rw [hdL]; exact hz)
      obtain ⟨ph, ch, rfl, -⟩ := own_read hoh156
      have kX : w156.cell? ⟨X, 2, none⟩ = some (.slice ph j ch) := cellOf hbX156 rfl
      simp only [kX, vcs, eqV, nilV, Option.map_some, Nat.mul_one, implies_true, true_and, and_true, and_self]
      refine append_1g (by rw [row74]) row98 rfl rfl hoh156 hF156.size (by simp only [maxLen]; omega) (by omega) fun p3 c3 w175 ho175 hf175 hblk175 => ?_
      simp only [vcs, eqV, nilV, Option.map_some, Nat.mul_one, implies_true, true_and, and_true, and_self]
      have hphb : ∀ i, (Value.slice ph j ch).ownBlock = some i → w.heap.size ≤ i ∧ ∃ C, w156.heap[i]? = some (.cells C 98 (0, 0)) := fun i hi => own_block hoh156 hi
      have hbX175 := hf175.keep hbX156 fun h => by
        obtain ⟨_, C, hC⟩ := hphb X h
        rw [hbX156] at hC; cases hC
      refine stC_one hbX175 (by simp) rfl fun w187 hb187 hf187 => ?_
      have hfl : Fm (fun i => (Value.slice ph j ch).ownBlock = some i ∨ i = X) w156 w187 := (hf175.mono fun i _ h => .inl h).trans (hf187.mono fun i _ h => .inr h)
      have hno2 : ∀ (i : Nat) (C : Array Value) (t : TypeId), w156.heap[i]? = some (Obj.cells C t (0, 0)) → t ≠ 98 → t ≠ 97 → ¬ ((Value.slice ph j ch).ownBlock = some i ∨ i = X) := by
        rintro i C t hi h1 h2 (h | rfl)
        · obtain ⟨_, C', hC'⟩ := hphb i h
          rw [hi] at hC'; cases hC'; exact h1 rfl
        · rw [hbX156] at hi; cases hi; exact h2 rfl
      rw [show IntKind.i64.wrap ((j : Int) + 1) = ((j + 1 : Nat) : Int) from (w64 (by omega)).trans (by omega)]
      have hF187 : Fm none' w w187 := hF156.trans' hfl fun i hi h => by
        rcases h with h | h
        · have := (hphb i h).1; omega
        · omega
      refine ⟨⟨j + 1, p', c', by omega, rfl, ⟨q2, e2, .slice p3 (j + 1) c3, ?_, ?_, ?_, hb187, ?_, hF187⟩, ?_, hsplit⟩, ?_⟩
      · rw [← hLn]; rfl
      · rw [← hLn]; exact hz
      · rw [← hLn]
        refine hfl.owns ho2 fun i hi => ?_
        obtain ⟨_, cur, hcur⟩ := own_block ho2 hi
        exact hno2 i _ _ hcur (by decide) (by decide)
      · have e1 : ptrs bl (ids.take (j + 1)) = ptrs bl (ids.take j) ++ [.pointer (some ⟨bl x.1, 0, none⟩)] := by
          rw [List.take_add_one, hij]
          unfold ptrs
          rw [List.flatMap_append]
          rfl
        rw [e1]
        refine hf187.owns ho175 fun i hi hiX => ?_
        obtain ⟨_, cur, hcur⟩ := own_block ho175 hi
        rw [hiX, hbX175] at hcur; cases hcur
      · rw [← hLn]
        have hdg156 := hdg152.keep hf156
        refine ⟨hfl.keep hdg156.blk (hno2 _ _ _ hdg156.blk (by decide) (by decide)), ?_⟩
        obtain ⟨qs', r1, r2, r3⟩ := hdg156.rows
        refine ⟨qs', r1, hfl.owns r2 fun i hi => ?_, fun k m q' hk hq => ⟨(r3 k m q' hk hq).1.keepN hfl fun ad e1 hne h => ?_, (r3 k m q' hk hq).2⟩⟩
        · obtain ⟨_, cur, hcur⟩ := own_block r2 hi
          exact hno2 i _ _ hcur (by decide) (by decide)
        · have := (r3 k m q' hk hq).2 ad e1 hne
          rcases h with h | h
          · have := (hphb _ h).1; omega
          · omega
      · show ms.length - ((j + 1 : Nat) : Int).toNat < ms.length - (j : Int).toNat
        omega
    · have hjl : j = ms.length := by omega
      have hd0 : fitN d ms = j := by rw [hfit, hjl, List.drop_length]; rfl
      rw [hd0]
      exact hJ
  rintro u3 w192 ⟨qb2, eb2, hv, h9, hez, hob, hbX, hoh, hF192⟩
  change u3 9 = _ at h9
  obtain ⟨k, hk⟩ : ∃ k, k = fitN d ms := ⟨_, rfl⟩
  rw [← hk] at h9 hez hob hoh
  have hkl : k ≤ ms.length := by rw [hk]; exact fitN_le d ms
  obtain ⟨ys, hys⟩ : ∃ ys, ys = (encD { d with list := l ++ ms.take k }).1 := ⟨_, rfl⟩
  rw [← hys] at h9 hob
  have hpack : packC c l now = ((ys, 0), { c with sent := c.sent ++ [⟨c.next, now, ids.take k⟩], next := (c.next + 1) % 65536 }) := by
    unfold packC
    rw [← hd, if_neg (by simpa using he0), ← hms, ← hids, ← hk, ← hys]
  rw [hpack]
  have hc192 : Core w192.drew F A bl mk c wv sv := hc.keep (hF192.trans (Fm.drew w192)) fun _ _ _ _ _ _ => id
  have hS192 : SentAt w192.drew F bl c.pushed c.sent wv sv hs := hS.keep (hF192.trans (Fm.drew w192)) fun _ _ _ _ _ _ => id
  obtain ⟨ps, cs, hsv, hsvl, -⟩ := own_readS hS192.own
  have hsvb : ∀ i, sv.ownBlock = some i → i < w.heap.size ∧ ∃ C, w192.heap[i]? = some (.cells C 97 (0, 0)) := fun i hi => ⟨hB i (hS.fs i hi), (own_block hS192.own hi).2⟩
  have svA : ¬ sv.ownBlock = some A := fun h => by
    obtain ⟨_, C, hC⟩ := hsvb A h
    have := hc192.box
    unfold BoxA at this
    have h1 : w192.drew.heap[A]? = w192.heap[A]? := rfl
    rw [h1, hC] at this; cases this
  have svX : ¬ sv.ownBlock = some X := fun h => by have := (hsvb X h).1; omega
  have kS : w192.drew.cell? ⟨A, 2, none⟩ = some (.slice ps c.sent.length cs) := by rw [← hsv]; exact cellOf hc192.box rfl
  have kX : cellsAt w192.drew ⟨X, 0, none⟩ 3 = some [.int .u16 c.next, .int .u32 now, hv] := cells_all (w := w192.drew) hbX rfl
  simp only [h9, addr_add, Nat.zero_add]
  refine ⟨fun w' => Fm (fun i => sv.ownBlock = some i) w192.drew w', Fm.refl _ _, ?_⟩
  simp only [vcs, eqV, nilV, Option.map_some, Nat.mul_one, implies_true, true_and, and_true, and_self]
  refine rd_of kS ⟨fun w' hf => rd_of (hf.cell kS svA) rfl, ?_⟩
  simp only [vcs, eqV, nilV, Option.map_some, Nat.mul_one, implies_true, true_and, and_true, and_self]
  refine rd_of kX ⟨fun w' hf => rd_of (hf.cells svX kX) rfl, ?_⟩
  refine build_Sg (by rw [row75]) row97 rfl (by omega) (by omega) rfl fun w215 hb215 hs215 hf215 => ?_
  simp only [vcs, eqV, nilV, Option.map_some, Nat.mul_one, implies_true, true_and, and_true, and_self]
  refine ⟨hf215.none, ?_⟩
  have hown215 : w215.ownsRow 0 97 3 (.slice ps c.sent.length cs) c.sent.length ((c.sent.zip hs).flatMap entC) := by
    rw [← hsv]
    exact hf215.owns hS192.own fun _ _ => id
  have hvone := own_one hoh
  refine append_rS (m := 1) (ys := [.int .u16 c.next, .int .u32 now, hv]) (by rw [row75]) row97 rfl (by omega) hown215 rfl (fun v hv' => ?_) (fun j y hy => ?_) (Nat.zero_le _) (by simp only [maxLen]; omega) (by omega) fun p' c' w220 ho220 hf220 hblk220 => ?_
  · simp at hv'
    rcases hv' with rfl | rfl | rfl
    · rfl
    · rfl
    · exact hvone
  · exact ⟨_, _, rfl, by rw [Nat.zero_add]; exact cellOf hb215 (by simpa using hy)⟩
  simp only [vcs, eqV, nilV, Option.map_some, Nat.mul_one, implies_true, true_and, and_true, and_self]
  rw [← hsv] at hf220 hblk220
  have hf220' : Fm (fun i => sv.ownBlock = some i) w192.drew w220 := hf215.none.trans hf220
  refine ⟨hf220', ?_⟩
  have hbox220 := hf220'.keep hc192.box svA
  refine stC_one hbox220 (by simp) rfl fun w224 hb224 hf224 => ?_
  refine ⟨fun w' => w' = w224.drew, rfl, ?_⟩
  have k2 : w224.drew.cell? ⟨A, 2, none⟩ = some (.slice p' (c.sent.length + 1) c') := cellOf (w := w224.drew) hb224 rfl
  simp only [k2, forall_eq, vcs, eqV, nilV, Option.map_some, Nat.mul_one, implies_true, true_and, and_true, and_self]
  have emax : max 0 (IntKind.i64.wrap (((c.sent.length + 1 : Nat) : Int) - 64)) = ((0 : Nat) : Int) := by
    rw [w64 (by omega)]; omega
  rw [emax]
  obtain ⟨g, hpg, hc1⟩ : ∃ g, p' = some ⟨g, 0, none⟩ ∧ c.sent.length + 1 ≤ c' := by
    rcases ho220.2 with ⟨e, h⟩ | ⟨g, cap, C, e, -, -, h, -⟩
    · omega
    · simp only [Value.slice.injEq] at e
      exact ⟨g, e.1, by omega⟩
  refine sliceAt_loS (by rw [row75]) row97 (by omega) (by omega) ?_
  refine ⟨sliceAt_loS (by rw [row75]) row97 (by omega) (by omega) (by first | exact ⟨rfl, rfl⟩ | rfl), ?_⟩
  simp only [vcs, eqV, nilV, Option.map_some, Nat.mul_one, implies_true, true_and, and_true, and_self]
  rw [hpg] at hb224 ho220 hblk220 ⊢
  simp only [Option.map_some, addr_add, Nat.zero_add, Int.toNat_natCast, Nat.zero_mul, Nat.sub_zero, ite_self]
  refine stC_one (w := w224.drew) hb224 (by simp) rfl fun w269 hb269 hf269 => ?_
  have kn : w269.cell? ⟨A, 0, none⟩ = some (.int .u16 c.next) := cellOf hb269 rfl
  simp only [kn, vcs, eqV, nilV, Option.map_some, Nat.mul_one, implies_true, true_and, and_true, and_self]
  have enx : IntKind.u16.wrap ((c.next : Int) + 1) = (((c.next + 1) % 65536 : Nat) : Int) := w16m (c.next + 1)
  rw [enx]
  refine stC_one hb269 (by simp) rfl fun w272 hb272 hf272 => ?_
  -- what holds in the end
  have hfA : Fm (fun i => i = A) w220 w272 := ((hf224.trans (Fm.drew w224).none).trans hf269).trans hf272
  have hfe : Fm (fun i => sv.ownBlock = some i ∨ i = A) w192 w272 := ((Fm.drew w192).none.trans (hf220'.mono fun i _ h => .inl h)).trans (hfA.mono fun i _ h => .inr h)
  have hbox192 : BoxA w192 A (.int .u16 c.next) wv sv c.win (.int .i64 c.rtt) (.bool c.timed) (.int .u32 c.heard) := hc192.box
  have hno : ∀ (i : Nat) (C : Array Value) (t : TypeId), w192.heap[i]? = some (Obj.cells C t (0, 0)) → t ≠ 97 → t ≠ 79 → ¬ (sv.ownBlock = some i ∨ i = A) := by
    rintro i C t hi h1 h2 (h | rfl)
    · obtain ⟨_, C', hC'⟩ := hsvb i h
      rw [hi] at hC'; cases hC'; exact h1 rfl
    · unfold BoxA at hbox192
      rw [hi] at hbox192; cases hbox192; exact h2 rfl
  have hFall : Fm F w w272 := hF192.none.trans (hfe.mono fun i _ h => by
    rcases h with h | h
    · exact hS.fs i h
    · exact h ▸ hc.fA)
  have hob272 := hfe.owns hob fun i hi => by
    obtain ⟨_, cur, hcur⟩ := own_block hob hi
    exact hno i _ _ hcur (by decide) (by decide)
  have hoh272 := hfe.owns hoh fun i hi => by
    obtain ⟨_, cur, hcur⟩ := own_block hoh hi
    exact hno i _ _ hcur (by decide) (by decide)
  have hnoA : ∀ (i : Nat) (C : Array Value) (t : TypeId), w220.heap[i]? = some (Obj.cells C t (0, 0)) → t ≠ 79 → ¬ i = A := by
    rintro i C t hi h2 rfl
    rw [hbox220] at hi; cases hi; exact h2 rfl
  have hos272 := hfA.owns ho220 fun i hi => by
    obtain ⟨_, cur, hcur⟩ := own_block ho220 hi
    exact hnoA i _ _ hcur (by decide)
  obtain ⟨F', hF'⟩ : ∃ F' : Nat → Prop, F' = fun i => F i ∨ w.heap.size ≤ i ∧ ∃ C t, w272.heap[i]? = some (.cells C t (0, 0)) ∧ (t = 97 ∨ t = 98) := ⟨_, rfl⟩
  have hsub : ∀ i, F i → F' i := fun i hi => by rw [hF']; exact .inl hi
  have hF'lt : ∀ i, F' i → i < w272.heap.size := fun i hi => by
    rw [hF'] at hi
    rcases hi with hi | ⟨_, C, t, hC, _⟩
    · exact Nat.lt_of_lt_of_le (hB i hi) hFall.size
    · exact lt_of_blk hC
  have hcore : Core w272 F A bl mk { c with sent := c.sent ++ [⟨c.next, now, ids.take k⟩], next := (c.next + 1) % 65536 } wv (.slice (some ⟨g, 0, none⟩) (c.sent.length + 1) c') := by
    have h220 : Core w220 F A bl mk c wv sv := hc192.keep hf220' fun i C t hi hF ht h => by
      obtain ⟨_, C', hC'⟩ := hsvb i h
      have h1 : w192.drew.heap[i]? = w192.heap[i]? := rfl
      rw [h1, hC'] at hi; cases hi
      rcases ht with h | ⟨h, _⟩ | h | h <;> cases h
    exact h220.turn hfA rfl rfl hb272 hc.wok (Nat.mod_lt _ (by omega)) hc.heard hc.rtt
  refine ⟨qb2, eb2, F', rfl, hob272, fun i hi hFi => ?_, ⟨bl, mk, wv, _, hs ++ [hv], hcore.up hsub hF'lt, ?_, hmk⟩, fun i hi => ?_, hFall⟩
  · obtain ⟨h1, cur, hcur⟩ := own_block hob272 hi
    rw [hF'] at hFi
    rcases hFi with h | ⟨_, C, t, hC, ht⟩
    · have := hB i h; omega
    · rw [hcur] at hC; cases hC
      rcases ht with h | h <;> cases h
  · have hlen := hS.len
    have ezip : (c.sent ++ [(⟨c.next, now, ids.take k⟩ : Ent)]).zip (hs ++ [hv]) = c.sent.zip hs ++ [(⟨c.next, now, ids.take k⟩, hv)] := by
      rw [List.zip_append hlen.symm]; rfl
    refine ⟨by simp [hlen], ?_, ?_, ?_, ?_⟩
    · show w272.ownsRow 0 97 3 _ (c.sent ++ [(⟨c.next, now, ids.take k⟩ : Ent)]).length (((c.sent ++ [(⟨c.next, now, ids.take k⟩ : Ent)]).zip (hs ++ [hv])).flatMap entC)
      rw [ezip, List.flatMap_append, List.length_append]
      exact hos272
    · intro i hi
      obtain ⟨_, cur, hcur⟩ := own_block hos272 hi
      rw [hF']
      rcases hblk220 with h | h
      · rw [h] at hi; exact .inl (hS.fs i hi)
      · rw [h] at hi; cases hi
        exact .inr ⟨by have := hF192.size; have := hf215.size; have h3 : w192.drew.heap.size = w192.heap.size := rfl; omega, _, _, hcur, .inl rfl⟩
    · intro j e x he hx
      by_cases hj : j < c.sent.length
      · rw [List.getElem?_append_left hj] at he
        rw [List.getElem?_append_left (by omega)] at hx
        have h1 := hS192.has j e x he hx
        refine (HasAt.keep (S := fun i => sv.ownBlock = some i ∨ i = A) h1 (((hf220'.mono fun i _ h => .inl h)).trans (hfA.mono fun i _ h => .inr h)) fun i C hi hFi hw => ?_).up hsub
        exact hno i C _ hi (by decide) (by decide)
      · have hjl := (List.getElem?_eq_some_iff.1 he).1
        rw [List.length_append] at hjl
        have hje : j = c.sent.length := by simp at hjl; omega
        subst hje
        rw [List.getElem?_append_right (by omega)] at he
        rw [List.getElem?_append_right (by omega), hlen] at hx
        simp at he hx
        subst he hx
        have hkk : (ids.take k).length = k := by rw [List.length_take]; omega
        refine ⟨?_, fun i hi => ?_, fun i hi => hidlt i (List.mem_of_mem_take hi)⟩
        · show w272.ownsRow 0 98 1 hv (ids.take k).length (ptrs bl (ids.take k))
          rw [hkk]
          exact own_base hoh272 (Nat.zero_le _)
        · obtain ⟨h1, cur, hcur⟩ := own_block hoh272 hi
          refine ⟨by rw [hF']; exact .inr ⟨h1, _, _, hcur, .inr rfl⟩, fun hw => ?_⟩
          have := hB i (hc.fw i hw)
          omega
    · intro e he
      rcases List.mem_append.1 he with he | he
      · exact hS.rng e he
      · obtain rfl : e = ⟨c.next, now, ids.take k⟩ := by simpa using he
        exact ⟨hc.next, hnow⟩
  · rw [hF'] at hi
    rcases hi with h | ⟨h, _⟩
    · exact .inl h
    · exact .inr h
end
end Go.Proofs.YtipikchkbmgloaaDoor
namespace Go.Proofs.YtipikchkbmgloaaDoor
set_option linter.unusedSimpArgs false
set_option linter.unusedVariables false
open Go VC
theorem vc8 (w : World) (R : Value → World → Prop)
  (h : callV Tryd.prog (15 : Nat) [] w fun v0 w1 => isP v0 fun o2 => callV Tryd.prog (15 : Nat) [] w1 fun v3 w4 => isP v3 fun o5 => br (Option.isNone o2) (R (Value.bool false) w4) (br (Option.isNone o5) (R (Value.bool false) w4) (callV Tryd.prog (19 : Nat) [Value.pointer o2, Value.agg #[Value.int IntKind.i64 (7 : Int), Value.int IntKind.u16 (0 : Int), Value.int IntKind.u16 (0 : Int), Value.int IntKind.u8 (0 : Int), Value.int IntKind.i8 (0 : Int), Value.int IntKind.i8 (0 : Int), Value.int IntKind.i64 (0 : Int), Value.int IntKind.u16 (3 : Int), Value.int IntKind.i64 (9 : Int), Value.int IntKind.i64 (0 : Int), Value.int IntKind.i64 (0 : Int), Value.int IntKind.i64 (0 : Int), Value.int IntKind.i64 (0 : Int), Value.int IntKind.i64 (0 : Int), Value.int IntKind.i64 (0 : Int), Value.int IntKind.i64 (0 : Int), Value.int IntKind.i64 (0 : Int), Value.int IntKind.i64 (0 : Int), Value.int IntKind.i64 (0 : Int), Value.int IntKind.i64 (0 : Int), Value.int IntKind.u32 (0 : Int), Value.int IntKind.u32 (0 : Int), Value.slice none (0 : Nat) (0 : Nat)]] w4 fun v6 w7 => isK IntKind.i64 v6 fun i8 => callV Tryd.prog (17 : Nat) [Value.pointer o2, Value.slice none (0 : Nat) (0 : Nat), Value.int IntKind.u32 (5 : Int)] w7 fun v9 w10 => isTup v9 fun l11 => rd l11[(0 : Nat)]? fun v12 => isSl v12 fun o13 n14 n15 => isTup v9 fun l16 => rd l16[(1 : Nat)]? fun v17 => isK IntKind.i64 v17 fun i18 => callV Tryd.prog (18 : Nat) [Value.pointer o5, Value.slice o13 n14 n15, Value.int IntKind.u32 (7 : Int)] w10 fun v19 w20 => isTup v19 fun l21 => rd l21[(0 : Nat)]? fun v22 => isSl v22 fun o23 n24 n25 => isTup v19 fun l26 => rd l26[(1 : Nat)]? fun v27 => isK IntKind.i64 v27 fun i28 => callV Tryd.prog (18 : Nat) [Value.pointer o5, Value.slice o13 n14 n15, Value.int IntKind.u32 (8 : Int)] w20 fun v29 w30 => isTup v29 fun l31 => rd l31[(0 : Nat)]? fun v32 => isSl v32 fun o33 n34 n35 => isTup v29 fun l36 => rd l36[(1 : Nat)]? fun v37 => isK IntKind.i64 v37 fun i38 => runs Tryd.prog (Instr.buildSlice (24 : Nat) (1 : Nat) #[((0 : Nat), Value.agg #[Value.int IntKind.i64 (1 : Int), Value.int IntKind.u16 (0 : Int), Value.int IntKind.u16 (0 : Int), Value.int IntKind.u8 (0 : Int), Value.int IntKind.i8 (0 : Int), Value.int IntKind.i8 (0 : Int), Value.int IntKind.i64 (0 : Int), Value.int IntKind.u16 (0 : Int), Value.int IntKind.i64 (0 : Int), Value.int IntKind.i64 (0 : Int), Value.int IntKind.i64 (0 : Int), Value.int IntKind.i64 (0 : Int), Value.int IntKind.i64 (0 : Int), Value.int IntKind.i64 (0 : Int), Value.int IntKind.i64 (0 : Int), Value.int IntKind.i64 (0 : Int), Value.int IntKind.i64 (0 : Int), Value.int IntKind.i64 (0 : Int), Value.int IntKind.i64 (0 : Int), Value.int IntKind.i64 (0 : Int), Value.int IntKind.u32 (0 : Int), Value.int IntKind.u32 (0 : Int), Value.slice none (0 : Nat) (0 : Nat)])]) w30 fun v39 w40 => isSl v39 fun o41 n42 n43 => callV Tryd.prog (17 : Nat) [Value.pointer o5, Value.slice o41 n42 n43, Value.int IntKind.u32 (9 : Int)] w40 fun v44 w45 => isTup v44 fun l46 => rd l46[(0 : Nat)]? fun v47 => isSl v47 fun o48 n49 n50 => isTup v44 fun l51 => rd l51[(1 : Nat)]? fun v52 => isK IntKind.i64 v52 fun i53 => callV Tryd.prog (18 : Nat) [Value.pointer o2, Value.slice o48 n49 n50, Value.int IntKind.u32 (11 : Int)] w45 fun v54 w55 => isTup v54 fun l56 => rd l56[(0 : Nat)]? fun v57 => isSl v57 fun o58 n59 n60 => isTup v54 fun l61 => rd l61[(1 : Nat)]? fun v62 => isK IntKind.i64 v62 fun i63 => br (decide (i8 = (0 : Int))) (br (decide (i18 = (0 : Int))) (br (decide (i28 = (0 : Int))) (br (decide ((↑n24 : Int) = (1 : Int))) (rd o23 fun a64 => ((0 : Int) ≤ (0 : Int) ∧ (0 : Int) < (↑n24 : Int)) ∧ rd (World.cell? w55 (Addr.add a64 (8 : Nat))) fun v65 => isK IntKind.i64 v65 fun i66 => br (decide (i66 = (9 : Int))) (br (decide (i38 = (7 : Int))) (br (decide (i53 = (0 : Int))) (br (decide (i63 = (0 : Int))) (br (decide ((↑n59 : Int) = (1 : Int))) (callV Tryd.prog (20 : Nat) [Value.pointer o2] w55 fun v67 w68 => isK IntKind.i64 v67 fun i69 => br (decide (i69 = (0 : Int))) (callV Tryd.prog (21 : Nat) [Value.pointer o2] w68 fun v70 w71 => isK IntKind.i64 v70 fun i72 => R (Value.bool (decide (i72 = (6 : Int)))) w71) (R (Value.bool false) w68)) (R (Value.bool false) w55)) (R (Value.bool false) w55)) (R (Value.bool false) w55)) (R (Value.bool false) w55)) (R (Value.bool false) w55)) (R (Value.bool false) w55)) (R (Value.bool false) w55)) (R (Value.bool false) w55)) (R (Value.bool false) w55)))) :
  callV Tryd.prog 8 [] w R :=
  vc_of hm noHints Tryd.func8 ent8 (by kernel_rfl) h

theorem vc3 (a : Int) (b : Bool) (c : Int) (d : Int) (ep : Option Addr) (en : Nat) (ec : Nat) (p5p : Option Addr) (p5n : Nat) (p5c : Nat) (w : World) (R : Value → World → Prop)
  (h : callV Tryd.prog (8 : Nat) [] w fun v0 w1 => isB v0 fun t2 => callV Tryd.prog (9 : Nat) [Value.slice ep en ec] w1 fun v3 w4 => isSl v3 fun o5 n6 n7 => runs Tryd.prog (Instr.buildSlice (25 : Nat) (0 : Nat) #[]) w4 fun v8 w9 => isSl v8 fun o10 n11 n12 => runs Tryd.prog (Instr.sliceAt (25 : Nat) (Value.slice p5p p5n p5c) none (some (Value.int IntKind.i64 (min (↑p5n : Int) (2000 : Int)))) none) w9 fun v13 w14 => isSl v13 fun o15 n16 n17 => runs Tryd.prog (Builtin.append_ #[(25 : Nat), (25 : Nat)] (25 : Nat) #[Value.slice o10 n11 n12, Value.slice o15 n16 n17]) w14 fun v18 w19 => isSl v18 fun o20 n21 n22 => callV Tryd.prog (10 : Nat) [Value.agg #[Value.int IntKind.u16 a, Value.bool b, Value.int IntKind.u16 c, Value.int IntKind.u32 d, Value.slice o5 n6 n7]] w19 fun v23 w24 => isTup v23 fun l25 => rd l25[(0 : Nat)]? fun v26 => isSl v26 fun o27 n28 n29 => isTup v23 fun l30 => rd l30[(1 : Nat)]? fun v31 => isK IntKind.i64 v31 fun i32 => callV Tryd.prog (11 : Nat) [Value.agg #[Value.int IntKind.u16 a, Value.bool b, Value.int IntKind.u16 c, Value.int IntKind.u32 d, Value.slice o5 n6 n7]] w24 fun v33 w34 => isTup v33 fun l35 => rd l35[(0 : Nat)]? fun v36 => isStr v36 fun x37 => isTup v33 fun l38 => rd l38[(1 : Nat)]? fun v39 => isK IntKind.i64 v39 fun i40 => callV Tryd.prog (12 : Nat) [Value.slice o20 n21 n22] w34 fun v41 w42 => isTup v41 fun l43 => rd l43[(0 : Nat)]? fun v44 => isTup v41 fun l45 => rd l45[(1 : Nat)]? fun v46 => isK IntKind.i64 v46 fun i47 => allocC w42 (Obj.cells #[Value.int IntKind.u16 (0 : Int), Value.bool false, Value.int IntKind.u16 (0 : Int), Value.int IntKind.u32 (0 : Int), Value.slice none (0 : Nat) (0 : Nat)] (32 : Nat)) fun n48 w49 => rd (gd (List.length (Array.toList (Value.cells v44)) == (5 : Nat))) fun _x => stC w49 { block := n48, off := (0 : Nat) : Addr } (cellsOf true v44) fun w50 => runs Tryd.prog (convert (25 : Nat) (9 : Nat) (Value.slice o20 n21 n22)) w50 fun v51 w52 => isStr v51 fun x53 => callV Tryd.prog (13 : Nat) [Value.string x53] w52 fun v54 w55 => isTup v54 fun l56 => rd l56[(0 : Nat)]? fun v57 => isTup v54 fun l58 => rd l58[(1 : Nat)]? fun v59 => isK IntKind.i64 v59 fun i60 => allocC w55 (Obj.cells #[Value.int IntKind.u16 (0 : Int), Value.bool false, Value.int IntKind.u16 (0 : Int), Value.int IntKind.u32 (0 : Int), Value.slice none (0 : Nat) (0 : Nat)] (35 : Nat)) fun n61 w62 => rd (gd (List.length (Array.toList (Value.cells v57)) == (5 : Nat))) fun _x => stC w62 { block := n61, off := (0 : Nat) : Addr } (cellsOf true v57) fun w63 => br t2 (runs Tryd.prog (convert (25 : Nat) (9 : Nat) (Value.slice o27 n28 n29)) w63 fun v64 w65 => isStr v64 fun x66 => br (decide (x66 = x37)) (br (decide (i32 = i40)) (br (decide (i47 = i60)) (rd (World.cell? w65 { block := n48, off := (0 : Nat) : Addr }) fun v67 => isK IntKind.u16 v67 fun i68 => rd (World.cell? w65 { block := n61, off := (0 : Nat) : Addr }) fun v69 => isK IntKind.u16 v69 fun i70 => br (decide (i68 = i70)) (rd (World.cell? w65 { block := n48, off := (1 : Nat) : Addr }) fun v71 => isB v71 fun t72 => rd (World.cell? w65 { block := n61, off := (1 : Nat) : Addr }) fun v73 => isB v73 fun t74 => br (decide (t72 = t74)) (rd (World.cell? w65 { block := n48, off := (2 : Nat) : Addr }) fun v75 => isK IntKind.u16 v75 fun i76 => rd (World.cell? w65 { block := n61, off := (2 : Nat) : Addr }) fun v77 => isK IntKind.u16 v77 fun i78 => br (decide (i76 = i78)) (rd (World.cell? w65 { block := n48, off := (3 : Nat) : Addr }) fun v79 => isK IntKind.u32 v79 fun i80 => rd (World.cell? w65 { block := n61, off := (3 : Nat) : Addr }) fun v81 => isK IntKind.u32 v81 fun i82 => br (decide (i80 = i82)) (rd (World.cell? w65 { block := n48, off := (4 : Nat) : Addr }) fun v83 => isSl v83 fun o84 n85 n86 => rd (World.cell? w65 { block := n61, off := (4 : Nat) : Addr }) fun v87 => isSl v87 fun o88 n89 n90 => callV Tryd.prog (14 : Nat) [Value.slice o84 n85 n86, Value.slice o88 n89 n90] w65 fun v91 w92 => isB v91 fun t93 => R (Value.bool t93) w92) (R (Value.bool false) w65)) (R (Value.bool false) w65)) (R (Value.bool false) w65)) (R (Value.bool false) w65)) (R (Value.bool false) w65)) (R (Value.bool false) w65)) (R (Value.bool false) w65)) (R (Value.bool false) w63)) :
  callV Tryd.prog 3 [Value.int IntKind.u16 a, Value.bool b, Value.int IntKind.u16 c, Value.int IntKind.u32 d, Value.slice ep en ec, Value.slice p5p p5n p5c] w R :=
  vc_of hm noHints Tryd.func3 ent3 (by kernel_rfl) h

theorem vc4 (a : Int) (b : Bool) (c : Int) (d : Int) (ep : Option Addr) (en : Nat) (ec : Nat) (p5p : Option Addr) (p5n : Nat) (p5c : Nat) (w : World) (R : Value → World → Prop)
  (h : callV Tryd.prog (8 : Nat) [] w fun v0 w1 => isB v0 fun t2 => callV Tryd.prog (9 : Nat) [Value.slice ep en ec] w1 fun v3 w4 => isSl v3 fun o5 n6 n7 => runs Tryd.prog (Instr.buildSlice (25 : Nat) (0 : Nat) #[]) w4 fun v8 w9 => isSl v8 fun o10 n11 n12 => runs Tryd.prog (Instr.sliceAt (25 : Nat) (Value.slice p5p p5n p5c) none (some (Value.int IntKind.i64 (min (↑p5n : Int) (2000 : Int)))) none) w9 fun v13 w14 => isSl v13 fun o15 n16 n17 => runs Tryd.prog (Builtin.append_ #[(25 : Nat), (25 : Nat)] (25 : Nat) #[Value.slice o10 n11 n12, Value.slice o15 n16 n17]) w14 fun v18 w19 => isSl v18 fun o20 n21 n22 => callV Tryd.prog (10 : Nat) [Value.agg #[Value.int IntKind.u16 a, Value.bool b, Value.int IntKind.u16 c, Value.int IntKind.u32 d, Value.slice o5 n6 n7]] w19 fun v23 w24 => isTup v23 fun l25 => rd l25[(0 : Nat)]? fun v26 => isSl v26 fun o27 n28 n29 => isTup v23 fun l30 => rd l30[(1 : Nat)]? fun v31 => isK IntKind.i64 v31 fun i32 => br (decide (i32 = (0 : Int))) (callV Tryd.prog (12 : Nat) [Value.slice o27 n28 n29] w24 fun v33 w34 => isTup v33 fun l35 => rd l35[(0 : Nat)]? fun v36 => isTup v33 fun l37 => rd l37[(1 : Nat)]? fun v38 => isK IntKind.i64 v38 fun i39 => allocC w34 (Obj.cells #[Value.int IntKind.u16 (0 : Int), Value.bool false, Value.int IntKind.u16 (0 : Int), Value.int IntKind.u32 (0 : Int), Value.slice none (0 : Nat) (0 : Nat)] (32 : Nat)) fun n40 w41 => rd (gd (List.length (Array.toList (Value.cells v36)) == (5 : Nat))) fun _x => stC w41 { block := n40, off := (0 : Nat) : Addr } (cellsOf true v36) fun w42 => br (!decide (i39 = (0 : Int))) (R (Value.bool false) w42) (rd (World.cell? w42 { block := n40, off := (0 : Nat) : Addr }) fun v43 => isK IntKind.u16 v43 fun i44 => br (!decide (i44 = a)) (R (Value.bool false) w42) (rd (World.cell? w42 { block := n40, off := (1 : Nat) : Addr }) fun v45 => isB v45 fun t46 => br (!decide (t46 = b)) (R (Value.bool false) w42) (rd (World.cell? w42 { block := n40, off := (2 : Nat) : Addr }) fun v47 => isK IntKind.u16 v47 fun i48 => br (!decide (i48 = c)) (R (Value.bool false) w42) (rd (World.cell? w42 { block := n40, off := (3 : Nat) : Addr }) fun v49 => isK IntKind.u32 v49 fun i50 => br (!decide (i50 = d)) (R (Value.bool false) w42) (rd (World.cell? w42 { block := n40, off := (4 : Nat) : Addr }) fun v51 => isSl v51 fun o52 n53 n54 => callV Tryd.prog (14 : Nat) [Value.slice o52 n53 n54, Value.slice o5 n6 n7] w42 fun v55 w56 => isB v55 fun t57 => br (!t57) (R (Value.bool false) w56) (br (decide ((1024 : Int) < (↑n28 : Int))) (R (Value.bool false) w56) (callV Tryd.prog (12 : Nat) [Value.slice o20 n21 n22] w56 fun v58 w59 => isTup v58 fun l60 => rd l60[(0 : Nat)]? fun v61 => isTup v58 fun l62 => rd l62[(1 : Nat)]? fun v63 => isK IntKind.i64 v63 fun i64 => allocC w59 (Obj.cells #[Value.int IntKind.u16 (0 : Int), Value.bool false, Value.int IntKind.u16 (0 : Int), Value.int IntKind.u32 (0 : Int), Value.slice none (0 : Nat) (0 : Nat)] (32 : Nat)) fun n65 w66 => rd (gd (List.length (Array.toList (Value.cells v61)) == (5 : Nat))) fun _x => stC w66 { block := n65, off := (0 : Nat) : Addr } (cellsOf true v61) fun w67 => br (!decide (i64 = (0 : Int))) (br t2 (rd (World.cell? w67 { block := n65, off := (4 : Nat) : Addr }) fun v68 => isSl v68 fun o69 n70 n71 => br (decide ((↑n70 : Int) = (0 : Int))) (rd (World.cell? w67 { block := n65, off := (1 : Nat) : Addr }) fun v72 => isB v72 fun t73 => R (Value.bool !t73) w67) (R (Value.bool false) w67)) (R (Value.bool false) w67)) (rd (cellsAt w67 { block := n65, off := (0 : Nat) : Addr } (5 : Nat)) fun l74 => callV Tryd.prog (10 : Nat) [Value.agg (List.toArray l74)] w67 fun v75 w76 => isTup v75 fun l77 => rd l77[(0 : Nat)]? fun v78 => isSl v78 fun o79 n80 n81 => isTup v75 fun l82 => rd l82[(1 : Nat)]? fun v83 => isK IntKind.i64 v83 fun i84 => br t2 (br (decide (i84 = (0 : Int))) (runs Tryd.prog (convert (25 : Nat) (9 : Nat) (Value.slice o79 n80 n81)) w76 fun v85 w86 => isStr v85 fun x87 => runs Tryd.prog (convert (25 : Nat) (9 : Nat) (Value.slice o20 n21 n22)) w86 fun v88 w89 => isStr v88 fun x90 => R (Value.bool (decide (x87 = x90))) w89) (R (Value.bool false) w76)) (R (Value.bool false) w76)))))))))) (callV Tryd.prog (12 : Nat) [Value.slice o20 n21 n22] w24 fun v91 w92 => isTup v91 fun l93 => rd l93[(0 : Nat)]? fun v94 => isTup v91 fun l95 => rd l95[(1 : Nat)]? fun v96 => isK IntKind.i64 v96 fun i97 => allocC w92 (Obj.cells #[Value.int IntKind.u16 (0 : Int), Value.bool false, Value.int IntKind.u16 (0 : Int), Value.int IntKind.u32 (0 : Int), Value.slice none (0 : Nat) (0 : Nat)] (32 : Nat)) fun n98 w99 => rd (gd (List.length (Array.toList (Value.cells v94)) == (5 : Nat))) fun _x => stC w99 { block := n98, off := (0 : Nat) : Addr } (cellsOf true v94) fun w100 => br (!decide (i97 = (0 : Int))) (br t2 (rd (World.cell? w100 { block := n98, off := (4 : Nat) : Addr }) fun v101 => isSl v101 fun o102 n103 n104 => br (decide ((↑n103 : Int) = (0 : Int))) (rd (World.cell? w100 { block := n98, off := (1 : Nat) : Addr }) fun v105 => isB v105 fun t106 => R (Value.bool !t106) w100) (R (Value.bool false) w100)) (R (Value.bool false) w100)) (rd (cellsAt w100 { block := n98, off := (0 : Nat) : Addr } (5 : Nat)) fun l107 => callV Tryd.prog (10 : Nat) [Value.agg (List.toArray l107)] w100 fun v108 w109 => isTup v108 fun l110 => rd l110[(0 : Nat)]? fun v111 => isSl v111 fun o112 n113 n114 => isTup v108 fun l115 => rd l115[(1 : Nat)]? fun v116 => isK IntKind.i64 v116 fun i117 => br t2 (br (decide (i117 = (0 : Int))) (runs Tryd.prog (convert (25 : Nat) (9 : Nat) (Value.slice o112 n113 n114)) w109 fun v118 w119 => isStr v118 fun x120 => runs Tryd.prog (convert (25 : Nat) (9 : Nat) (Value.slice o20 n21 n22)) w119 fun v121 w122 => isStr v121 fun x123 => R (Value.bool (decide (x120 = x123))) w122) (R (Value.bool false) w109)) (R (Value.bool false) w109)))) :
  callV Tryd.prog 4 [Value.int IntKind.u16 a, Value.bool b, Value.int IntKind.u16 c, Value.int IntKind.u32 d, Value.slice ep en ec, Value.slice p5p p5n p5c] w R :=
  vc_of hm noHints Tryd.func4 ent4 (by kernel_rfl) h

end Go.Proofs.YtipikchkbmgloaaDoor
namespace Go.Proofs.YtipikchkbmgloaaDoor
set_option linter.unusedSimpArgs false
set_option linter.unusedVariables false
open Go Go.RowKit VC
variable {w : World}
theorem ChAt.keep {w' : World} {F S : Nat → Prop} {A : Nat} {c : Ch} (h : ChAt w F A c) (f : Fm S w w') (hS : ∀ i, F i → ¬ S i) : ChAt w' F A c := by
  obtain ⟨bl, mk, wv, sv, hs, h1, h2, h3⟩ := h
  exact ⟨bl, mk, wv, sv, hs, h1.keep f fun i _ _ _ hi _ => hS i hi, h2.keep f fun i _ _ _ hi _ => hS i hi, h3⟩
theorem ChAt.lt {F : Nat → Prop} {A : Nat} {c : Ch} (h : ChAt w F A c) : ∀ i, F i → i < w.heap.size := by
  obtain ⟨bl, mk, wv, sv, hs, h1, h2, h3⟩ := h
  exact h1.lt
structure Duo (w0 w : World) (FA FB : Nat → Prop) (A B : Nat) (a b : Ch) : Prop where
  a : ChAt w FA A a
  b : ChAt w FB B b
  dis : ∀ i, FA i → ¬ FB i
  hiA : ∀ i, FA i → w0.heap.size ≤ i
  hiB : ∀ i, FB i → w0.heap.size ≤ i
  fm : Fm none' w0 w
theorem Duo.swap {w0 : World} {FA FB : Nat → Prop} {A B : Nat} {a b : Ch} (h : Duo w0 w FA FB A B a b) : Duo w0 w FB FA B A b a := ⟨h.b, h.a, fun i hb ha => h.dis i ha hb, h.hiB, h.hiA, h.fm⟩
theorem Duo.keep {w0 w' : World} {FA FB : Nat → Prop} {A B : Nat} {a b : Ch} (h : Duo w0 w FA FB A B a b) (f : Fm none' w w') : Duo w0 w' FA FB A B a b := ⟨h.a.keep f fun _ _ => id, h.b.keep f fun _ _ => id, h.dis, h.hiA, h.hiB, h.fm.trans f⟩
theorem Duo.step {w0 w' : World} {FA FB F' : Nat → Prop} {A B : Nat} {a b a' : Ch} (h : Duo w0 w FA FB A B a b) (ha : ChAt w' F' A a') (hF : ∀ i, F' i → FA i ∨ w.heap.size ≤ i) (f : Fm FA w w') : Duo w0 w' F' FB A B a' b := by
  refine ⟨ha, h.b.keep f fun i hb ha => h.dis i ha hb, fun i hi hb => ?_, fun i hi => ?_, h.hiB, h.fm.trans' f fun i hi ha => by have := h.hiA i ha; omega⟩
  · rcases hF i hi with h1 | h1
    · exact h.dis i h1 hb
    · have := h.b.lt i hb; omega
  · rcases hF i hi with h1 | h1
    · exact h.hiA i h1
    · have := h.fm.size; omega
structure Loose (w : World) (FA FB : Nat → Prop) (base : Nat) (q : Option Addr) (e : Nat) (ys : List Int) : Prop where
  own : w.ownsRow base 5 1 (.slice q ys.length e) ys.length (ys.map (Value.int .u8))
  no : ∀ i, (Value.slice q ys.length e).ownBlock = some i → ¬ FA i ∧ ¬ FB i
theorem Loose.bytes {FA FB : Nat → Prop} {base e : Nat} {q : Option Addr} {ys : List Int} (h : Loose w FA FB base q e ys) : BytesAt w q ys := BytesAt.of_own h.own
theorem Loose.cap {FA FB : Nat → Prop} {base e : Nat} {q : Option Addr} {ys : List Int} (h : Loose w FA FB base q e ys) : ys.length ≤ e := own_cap' h.own
theorem Loose.swap {FA FB : Nat → Prop} {base e : Nat} {q : Option Addr} {ys : List Int} (h : Loose w FA FB base q e ys) : Loose w FB FA base q e ys := ⟨h.own, fun i hi => (h.no i hi).symm⟩
theorem Loose.step {w' : World} {FA FB F' : Nat → Prop} {base e : Nat} {q : Option Addr} {ys : List Int} (h : Loose w FA FB base q e ys) (hF : ∀ i, F' i → FA i ∨ w.heap.size ≤ i) (f : Fm FA w w') : Loose w' F' FB base q e ys := by
  refine ⟨f.owns h.own fun i hi => (h.no i hi).1, fun i hi => ⟨fun h' => ?_, (h.no i hi).2⟩⟩
  rcases hF i h' with h1 | h1
  · exact (h.no i hi).1 h1
  · obtain ⟨_, cur, hcur⟩ := own_block h.own hi
    have := lt_of_blk hcur; omega
theorem Loose.keep {w' : World} {FA FB : Nat → Prop} {base e : Nat} {q : Option Addr} {ys : List Int} (h : Loose w FA FB base q e ys) (f : Fm none' w w') : Loose w' FA FB base q e ys := ⟨f.owns h.own fun _ _ => id, h.no⟩
section
variable {w0 : World} {FA FB : Nat → Prop} {A B : Nat} {a b : Ch}
theorem duo_push {m : Msg} {p : Option Addr} {cp : Nat} (h : Duo w0 w FA FB A B a b) (hm : Mok m) (hy : BytesAt w p m.bytes) (hp : ∀ ad, p = some ad → m.bytes ≠ [] → ad.block < w.heap.size) (hl : m.bytes.length ≤ 1000000) :
    callV Tryd.prog 19 [.pointer (some ⟨A, 0, none⟩), .agg (msgC m p cp).toArray] w fun v w' => v = .int .i64 (pushC a m).1 ∧ ∃ F', Duo w0 w' F' FB A B (pushC a m).2 b ∧ (∀ i, F' i → FA i ∨ w.heap.size ≤ i) ∧ Fm FA w w' := by
  refine (push19_c h.a hm hy hp hl).mono ?_
  rintro v w' ⟨hv, hc, hf⟩
  have hF : ∀ i, FNew FA w w' i → FA i ∨ w.heap.size ≤ i := fun i hi => hi.imp id (·.1)
  exact ⟨hv, _, h.step hc hF hf, hF, hf⟩
theorem duo_pack {l : List Msg} {p : Option Addr} {cp now N : Nat} (hH : Halves w0) (h : Duo w0 w FA FB A B a b) (hm : MsgsAt w N p l) (hN : N ≤ w.heap.size) (hok : Msok l) (hll : l.length ≤ 900) (hnow : now < 4294967296) (hsl : a.sent.length < 64) :
    callV Tryd.prog 17 [.pointer (some ⟨A, 0, none⟩), .slice p l.length cp, .int .u32 now] w fun v w' => ∃ q e F', v = .tuple #[.slice q (packC a l now).1.1.length e, .int .i64 (packC a l now).1.2] ∧
      Loose w' F' FB w.heap.size q e (packC a l now).1.1 ∧ Duo w0 w' F' FB A B (packC a l now).2 b ∧ (∀ i, F' i → FA i ∨ w.heap.size ≤ i) ∧ Fm FA w w' := by
  refine (pack17_c (hH.keep h.fm id) h.a hm hN hok hll hnow hsl).mono ?_
  rintro v w' ⟨q, e, F', hv, ho, hno, hc, hF, hf⟩
  refine ⟨q, e, F', hv, ⟨ho, fun i hi => ⟨hno i hi, fun hb => ?_⟩⟩, h.step hc hF hf, hF, hf⟩
  have := (own_block ho hi).1
  have := h.b.lt i hb
  omega
theorem duo_unpack {ys : List Int} {p : Option Addr} {cp now : Nat} (hH : Halves w0) (h : Duo w0 w FA FB A B a b) (hb : BytesAt w p ys) (hy : ∀ y ∈ ys, 0 ≤ y ∧ y < 256) (hl : ys.length ≤ 1000000) (hnc : ys.length ≤ cp) (hnow : now < 4294967296)
    (hsl : a.sent.length ≤ 1000000) (hids : ∀ e ∈ a.sent, e.ids.length ≤ 1000000) :
    callV Tryd.prog 18 [.pointer (some ⟨A, 0, none⟩), .slice p ys.length cp, .int .u32 now] w fun v w' => ∃ q e, v = .tuple #[.slice q (unpackC a ys now).1.1.length e, .int .i64 (unpackC a ys now).1.2] ∧
      OwnMsgs w' w.heap.size (.slice q (unpackC a ys now).1.1.length e) (unpackC a ys now).1.1 ∧ Duo w0 w' FA FB A B (unpackC a ys now).2 b ∧ Fm FA w w' := by
  refine (unpack18_c (hH.keep h.fm id) h.a hb hy hl hnc hnow hsl hids).mono ?_
  rintro v w' ⟨q, e, hv, ho, hc, hf⟩
  exact ⟨q, e, hv, ho, h.step hc (fun i hi => .inl hi) hf, hf⟩
theorem duo_waits (h : Duo w0 w FA FB A B a b) : callV Tryd.prog 20 [.pointer (some ⟨A, 0, none⟩)] w fun v w' => v = .int .i64 a.wait.length ∧ w' = w := by
  obtain ⟨bl, mk, wv, sv, hs, h1, h2, h3⟩ := h.a
  exact waits20_c h1
theorem duo_rtt (h : Duo w0 w FA FB A B a b) : callV Tryd.prog 21 [.pointer (some ⟨A, 0, none⟩)] w fun v w' => v = .int .i64 a.rtt ∧ w' = w := by
  obtain ⟨bl, mk, wv, sv, hs, h1, h2, h3⟩ := h.a
  exact rtt21_c h1
theorem duo_new : callV Tryd.prog 15 [] w fun v w1 => ∃ A, v = .pointer (some ⟨A, 0, none⟩) ∧ callV Tryd.prog 15 [] w1 fun v' w' => ∃ FA FB B, v' = .pointer (some ⟨B, 0, none⟩) ∧ Duo w w' FA FB A B newC newC := by
  refine new15_c.mono ?_
  rintro v w1 ⟨rfl, h1, hf1⟩
  refine ⟨_, rfl, new15_c.mono ?_⟩
  rintro v' w2 ⟨rfl, h2, hf2⟩
  refine ⟨_, _, _, rfl, h1.keep hf2 fun _ _ => id, h2, fun i hi hi' => ?_, fun i hi => ?_, fun i hi => ?_, hf1.trans hf2⟩
  · rcases hi with h | h
    · exact h
    · rcases hi' with h' | h'
      · exact h'
      · omega
  · rcases hi with h | h
    · exact h.elim
    · exact h.1
  · rcases hi with h | h
    · exact h.elim
    · have := hf1.size; omega
end
def shM : Msg := { blank 7 with prov := 3, id := 9 }
def shH : Msg := blank 1
def shA1 : Ch := (pushC newC shM).2
def shX : List Int := (packC shA1 [] 5).1.1
def shA2 : Ch := (packC shA1 [] 5).2
def shB1 : Ch := (unpackC newC shX 7).2
def shB2 : Ch := (unpackC shB1 shX 8).2
def shY : List Int := (packC shB2 [shH] 9).1.1
def shB3 : Ch := (packC shB2 [shH] 9).2
def shA3 : Ch := (unpackC shA2 shY 11).2
theorem sh1 : (pushC newC shM).1 = 0 := by decide +kernel
theorem sh2 : (packC shA1 [] 5).1.2 = 0 := by decide +kernel
theorem sh3 : (unpackC newC shX 7).1 = ([shM], 0) := by decide +kernel
theorem sh4 : (unpackC shB1 shX 8).1.2 = 7 := by decide +kernel
theorem sh5 : (packC shB2 [shH] 9).1.2 = 0 := by decide +kernel
theorem sh6 : (unpackC shA2 shY 11).1 = ([shH], 0) := by decide +kernel
theorem sh7 : shA3.wait.length = 0 ∧ shA3.rtt = 6 := by decide +kernel
theorem sealB_r {x : List Int} (h : ∀ y ∈ x, 0 ≤ y ∧ y < 256) : ∀ y ∈ sealB x, 0 ≤ y ∧ y < 256 := by
  intro y hy
  rcases List.mem_append.1 hy with hy | hy
  · exact h y hy
  · exact beB_r _ _ y hy
theorem encD_r (d : Dg) : (∀ y ∈ (encD d).1, 0 ≤ y ∧ y < 256) ∧ (encD d).1.length ≤ 1024 := by
  unfold encD
  split
  · exact ⟨by simp, by simp⟩
  split
  · exact ⟨by simp, by simp⟩
  split
  · exact ⟨by simp, by simp⟩
  · rename_i h
    refine ⟨sealB_r fun y hy => ?_, Nat.le_of_not_lt h⟩
    rcases List.mem_append.1 hy with hy | hy
    · exact headB_r d y hy
    · exact enc_range _ y hy
theorem packC_r (c : Ch) (l : List Msg) (now : Nat) : (∀ y ∈ (packC c l now).1.1, 0 ≤ y ∧ y < 256) ∧ (packC c l now).1.1.length ≤ 1024 := by
  unfold packC
  split
  · exact ⟨by simp, by simp⟩
  · exact encD_r _
theorem mok_sh : Mok shM ∧ Mok shH := by
  refine ⟨⟨?_, ?_, ?_, ?_, ?_, ?_, ?_, ?_, ?_, ?_, ?_, ?_, ?_, ?_, ?_, ?_, ?_, ?_, ?_, ?_, ?_, ?_, ?_⟩, ⟨?_, ?_, ?_, ?_, ?_, ?_, ?_, ?_, ?_, ?_, ?_, ?_, ?_, ?_, ?_, ?_, ?_, ?_, ?_, ?_, ?_, ?_, ?_⟩⟩
  all_goals first | (unfold I64; decide) | decide | (intro y hy; simp [shM, shH, blank] at hy)
theorem msgs_none_b {w : World} : BytesAt w (none : Option Addr) [] := fun j y h => by simp at h
theorem msok_nil : Msok [] := ⟨by simp, by simp, by simp⟩
theorem msgs_nil (w : World) (N : Nat) (p : Option Addr) : MsgsAt w N p [] := fun j m h => by simp at h
set_option maxRecDepth 20000 in
set_option maxHeartbeats 1000000 in
theorem shown8_c (hH : Halves w) : callV Tryd.prog 8 [] w fun v w' => v = .bool true ∧ Fm none' w w' := by
  refine vc8 w _ ?_
  refine (duo_new (w := w)).mono ?_
  rintro _ w1 ⟨A, rfl, hnew⟩
  simp only [vcs, eqV, nilV, Option.map_some, Nat.mul_one, implies_true, true_and, and_true, and_self]
  refine hnew.mono ?_
  rintro _ w4 ⟨FA, FB, B, rfl, hD⟩
  simp only [Option.isNone_some, vcs, eqV, nilV, Option.map_some, Nat.mul_one, implies_true, true_and, and_true, and_self]
  refine (duo_push (m := shM) (p := none) (cp := 0) hD mok_sh.1 (msgs_none_b) (fun ad e => by cases e) (by decide)).mono ?_
  rintro _ w7 ⟨rfl, F1, hD1, -, -⟩
  rw [sh1]
  simp only [vcs, eqV, nilV, Option.map_some, Nat.mul_one, implies_true, true_and, and_true, and_self]
  change Duo w w7 F1 FB A B shA1 newC at hD1
  refine (duo_pack (l := []) (p := none) (cp := 0) (now := 5) (N := w7.heap.size) hH hD1 (msgs_nil _ _ _) (Nat.le_refl _) msok_nil (by simp) (by omega) (by decide +kernel)).mono ?_
  rintro _ w10 ⟨qx, ex, F2, rfl, hx, hD2, -, -⟩
  rw [sh2]
  change Loose w10 F2 FB w7.heap.size qx ex shX at hx
  change Duo w w10 F2 FB A B shA2 newC at hD2
  simp only [vcs, eqV, nilV, Option.map_some, Nat.mul_one, implies_true, true_and, and_true, and_self, List.getElem?_toArray, List.getElem?_cons_zero, List.getElem?_cons_succ]
  have hxr := packC_r shA1 [] 5
  change (∀ y ∈ shX, 0 ≤ y ∧ y < 256) ∧ shX.length ≤ 1024 at hxr
  rw [show (packC shA1 [] 5).1.1 = shX from rfl]
  refine (duo_unpack (ys := shX) (cp := ex) (now := 7) hH hD2.swap hx.bytes hxr.1 (by omega) hx.cap (by omega) (by simp [newC]) (by simp [newC])).mono ?_
  rintro _ w20 ⟨q1, e1, rfl, ho1, hD3, hf3⟩
  have hx3 := (hx.swap.step (fun i hi => .inl hi) hf3)
  change Duo w w20 FB F2 B A shB1 shA2 at hD3
  rw [sh3] at ho1 ⊢
  simp only [vcs, eqV, nilV, Option.map_some, Nat.mul_one, implies_true, true_and, and_true, and_self, List.getElem?_toArray, List.getElem?_cons_zero, List.getElem?_cons_succ]
  refine (duo_unpack (ys := shX) (cp := ex) (now := 8) hH hD3 hx3.bytes hxr.1 (by omega) hx3.cap (by omega) (by decide +kernel) (by decide +kernel)).mono ?_
  rintro _ w30 ⟨q2, e2, rfl, ho2, hD4, hf4⟩
  change Duo w w30 FB F2 B A shB2 shA2 at hD4
  rw [sh4]
  simp only [vcs, eqV, nilV, Option.map_some, Nat.mul_one, implies_true, true_and, and_true, and_self, List.getElem?_toArray, List.getElem?_cons_zero, List.getElem?_cons_succ]
  refine build_Sg (cs := msgC shH none 0) (by rw [row24]) row53 rfl (by omega) (by omega) rfl fun w40 hb40 hs40 hf40 => ?_
  simp only [vcs, eqV, nilV, Option.map_some, Nat.mul_one, implies_true, true_and, and_true, and_self]
  have hD5 := hD4.keep hf40
  have hmH : MsgsAt w40 w40.heap.size (some ⟨w30.heap.size, 0, none⟩) [shH] := by
    intro j m hj
    match j, hj with
    | 0, hj =>
      simp at hj; subst hj
      exact ⟨_, none, 0, rfl, by show w30.heap.size < _; omega, by rw [addr_add]; exact cells_all hb40 rfl, (msgs_none_b), fun ad e => by cases e⟩
  refine (duo_pack (l := [shH]) (p := some ⟨w30.heap.size, 0, none⟩) (cp := 1) (now := 9) (N := w40.heap.size) hH hD5 hmH (Nat.le_refl _) ⟨by simp [mok_sh.2], by simp [shH, blank], by simp⟩ (by simp) (by omega) (by decide +kernel)).mono ?_
  rintro _ w45 ⟨qy, ey, F3, rfl, hy, hD6, -, hf6⟩
  rw [sh5]
  change Loose w45 F3 F2 w40.heap.size qy ey shY at hy
  change Duo w w45 F3 F2 B A shB3 shA2 at hD6
  simp only [vcs, eqV, nilV, Option.map_some, Nat.mul_one, implies_true, true_and, and_true, and_self, List.getElem?_toArray, List.getElem?_cons_zero, List.getElem?_cons_succ]
  have hyr := packC_r shB2 [shH] 9
  change (∀ y ∈ shY, 0 ≤ y ∧ y < 256) ∧ shY.length ≤ 1024 at hyr
  rw [show (packC shB2 [shH] 9).1.1 = shY from rfl]
  refine (duo_unpack (ys := shY) (cp := ey) (now := 11) hH hD6.swap hy.bytes hyr.1 (by omega) hy.cap (by omega) (by decide +kernel) (by decide +kernel)).mono ?_
  rintro _ w55 ⟨q3, e3, rfl, ho3, hD7, hf7⟩
  change Duo w w55 F2 F3 A B shA3 shB3 at hD7
  rw [sh6]
  simp only [vcs, eqV, nilV, Option.map_some, Nat.mul_one, implies_true, true_and, and_true, and_self, List.getElem?_toArray, List.getElem?_cons_zero, List.getElem?_cons_succ]
  have hFB : ∀ i, FB i → i < w10.heap.size := hD2.b.lt
  have hF2 : ∀ i, F2 i → i < w10.heap.size := hD2.a.lt
  have hb0 : w10.heap.size ≤ w20.heap.size := hf3.size
  have hall : Fm (fun i => FB i ∨ F2 i) w20 w55 := (((hf4.mono fun i _ h => .inl h).trans hf40.none).trans (hf6.mono fun i _ h => .inl h)).trans (hf7.mono fun i _ h => .inr h)
  have ho55 := ho1.keep hall fun i C t _ hb _ h => by
    rcases h with h | h
    · have := hFB i h; omega
    · have := hF2 i h; omega
  obtain ⟨p1, c1, e1', hat⟩ := ho55.at
  cases e1'
  obtain ⟨ad, qm, cm, rfl, -, hcells, -, -⟩ := hat 0 shM rfl
  have hid : w55.cell? (ad.add 8) = some (.int .i64 9) := by
    have := (cellsAt_length hcells).2 8 (.int .i64 9) rfl
    rw [add_add] at this
    rwa [Nat.zero_mul, Nat.zero_add] at this
  have hfin : Fm none' w w55 := hD7.fm
  simp only [decide_true, List.length_cons, List.length_nil, hid, vcs, eqV, nilV, Option.map_some, Nat.mul_one, implies_true, true_and, and_true, and_self]
  refine br_dec (fun _ => ⟨by decide, ?_⟩) (fun h => absurd rfl h)
  refine br_dec (fun _ => ?_) (fun h => absurd rfl h)
  refine (duo_waits hD7).mono ?_
  rintro _ w68 ⟨rfl, rfl⟩
  simp only [vcs, eqV, nilV, Option.map_some, Nat.mul_one, implies_true, true_and, and_true, and_self]
  rw [sh7.1]
  refine br_dec (fun _ => ?_) (fun h => absurd rfl h)
  refine (duo_rtt hD7).mono ?_
  rintro _ w71 ⟨rfl, rfl⟩
  simp only [vcs, eqV, nilV, Option.map_some, Nat.mul_one, implies_true, true_and, and_true, and_self]
  rw [sh7.2]
  exact ⟨rfl, hfin⟩
end Go.Proofs.YtipikchkbmgloaaDoor
namespace Go.Proofs.YtipikchkbmgloaaDoor
set_option linter.unusedSimpArgs false
set_option linter.unusedVariables false
open Go VC
theorem vc26 (ap : Option Addr) (an : Nat) (ac : Nat) (w : World) (R : Value → World → Prop)
  (h : loopC (alist [((4 : Nat), Value.int IntKind.i64 (0 : Int))]) w fun u0 u1 => ∀ (u2 : Nat → Value) (w3 : World), u0 (alist [((4 : Nat), u2 (4 : Nat))]) w3 → isK IntKind.i64 (u2 (4 : Nat)) fun i5 => br (decide (i5 < (↑an : Int))) (isK IntKind.i64 (u2 (4 : Nat)) fun i6 => rd ap fun a7 => ((0 : Int) ≤ i6 ∧ i6 < (↑an : Int)) ∧ rd (cellsAt w3 (Addr.add a7 (Int.toNat i6 * (23 : Nat))) (23 : Nat)) fun l8 => callV Tryd.prog (50 : Nat) [Value.agg (List.toArray l8)] w3 fun v9 w10 => isB v9 fun t11 => br (!t11) (R (Value.tuple #[Value.string { data := #[] : ByteArray }, Value.int IntKind.i64 (1 : Int)]) w10) (isK IntKind.i64 (u2 (4 : Nat)) fun i12 => again u0 u1 (alist [((4 : Nat), Value.int IntKind.i64 (IntKind.wrap IntKind.i64 (i12 + (1 : Int))))]) w10 (alist [((4 : Nat), u2 (4 : Nat))]) w3)) (br (decide ((16 : Int) < (↑an : Int))) (R (Value.tuple #[Value.string { data := #[] : ByteArray }, Value.int IntKind.i64 (5 : Int)]) w3) (callV Tryd.prog (51 : Nat) [Value.slice ap an ac] w3 fun v13 w14 => isStr v13 fun x15 => br (decide ((1024 : Int) < (↑(ByteArray.size x15) : Int))) (R (Value.tuple #[Value.string { data := #[] : ByteArray }, Value.int IntKind.i64 (5 : Int)]) w14) (R (Value.tuple #[Value.string x15, Value.int IntKind.i64 (0 : Int)]) w14)))) :
  callV Tryd.prog 26 [Value.slice ap an ac] w R :=
  vc_of hm ⟨fun _ => false, fun _ => .done, fun n => match n with | 2 => [4] | _ => []⟩ Tryd.func26 ent26 (by kernel_rfl) h

theorem vc51 (ap : Option Addr) (an : Nat) (ac : Nat) (w : World) (R : Value → World → Prop)
  (h : callV Tryd.prog (77 : Nat) [Value.int IntKind.u64 (IntKind.wrap IntKind.u64 (↑an : Int)), Value.int IntKind.i64 (5 : Int)] w fun v0 w1 => isStr v0 fun x2 => loopC (alist [((3 : Nat), Value.string x2), ((4 : Nat), Value.int IntKind.i64 (0 : Int))]) w1 fun u3 u4 => ∀ (u5 : Nat → Value) (w6 : World), u3 (alist [((3 : Nat), u5 (3 : Nat)), ((4 : Nat), u5 (4 : Nat))]) w6 → isK IntKind.i64 (u5 (4 : Nat)) fun i8 => br (decide (i8 < (↑an : Int))) (isStr (u5 (3 : Nat)) fun x9 => isK IntKind.i64 (u5 (4 : Nat)) fun i10 => rd ap fun a11 => ((0 : Int) ≤ i10 ∧ i10 < (↑an : Int)) ∧ rd (cellsAt w6 (Addr.add a11 (Int.toNat i10 * (23 : Nat))) (23 : Nat)) fun l12 => callV Tryd.prog (78 : Nat) [Value.agg (List.toArray l12)] w6 fun v13 w14 => isStr v13 fun x15 => rd (orO (binV BinOp.add (Value.string x9) (Value.string x15)) none) fun v16 => isStr v16 fun x17 => isK IntKind.i64 (u5 (4 : Nat)) fun i18 => again u3 u4 (alist [((3 : Nat), Value.string x17), ((4 : Nat), Value.int IntKind.i64 (IntKind.wrap IntKind.i64 (i18 + (1 : Int))))]) w14 (alist [((3 : Nat), u5 (3 : Nat)), ((4 : Nat), u5 (4 : Nat))]) w6) (isStr (u5 (3 : Nat)) fun x19 => callV Tryd.prog (79 : Nat) [Value.string x19] w6 fun v20 w21 => isStr v20 fun x22 => R (Value.string x22) w21)) :
  callV Tryd.prog 51 [Value.slice ap an ac] w R :=
  vc_of hm ⟨fun _ => false, fun _ => .done, fun n => match n with | 3 => [3, 4] | _ => []⟩ Tryd.func51 ent51 (by kernel_rfl) h

theorem vc76 (a0 : Int) (a1 : Int) (a2 : Int) (b : Int) (c : Int) (w : World) (R : Value → World → Prop)
  (h : allocC w (Obj.cells #[Value.int IntKind.i64 a0, Value.int IntKind.i64 a1, Value.int IntKind.i64 a2] (51 : Nat)) fun n0 w1 => rd (World.cell? w1 { block := n0, off := (0 : Nat) : Addr }) fun v2 => isK IntKind.i64 v2 fun i3 => rd (World.cell? w1 { block := n0, off := (1 : Nat) : Addr }) fun v4 => isK IntKind.i64 v4 fun i5 => rd (World.cell? w1 { block := n0, off := (2 : Nat) : Addr }) fun v6 => isK IntKind.i64 v6 fun i7 => runs Tryd.prog (Builtin.min_ #[(2 : Nat), (2 : Nat), (2 : Nat)] (2 : Nat) #[Value.int IntKind.i64 i3, Value.int IntKind.i64 i5, Value.int IntKind.i64 i7]) w1 fun v8 w9 => isK IntKind.i64 v8 fun i10 => br (decide (b ≤ i10)) (rd (World.cell? w9 { block := n0, off := (0 : Nat) : Addr }) fun v11 => isK IntKind.i64 v11 fun i12 => rd (World.cell? w9 { block := n0, off := (1 : Nat) : Addr }) fun v13 => isK IntKind.i64 v13 fun i14 => rd (World.cell? w9 { block := n0, off := (2 : Nat) : Addr }) fun v15 => isK IntKind.i64 v15 fun i16 => runs Tryd.prog (Builtin.max_ #[(2 : Nat), (2 : Nat), (2 : Nat)] (2 : Nat) #[Value.int IntKind.i64 i12, Value.int IntKind.i64 i14, Value.int IntKind.i64 i16]) w9 fun v17 w18 => isK IntKind.i64 v17 fun i19 => R (Value.bool (decide (i19 ≤ c))) w18) (R (Value.bool false) w9)) :
  callV Tryd.prog 76 [Value.agg #[Value.int IntKind.i64 a0, Value.int IntKind.i64 a1, Value.int IntKind.i64 a2], Value.int IntKind.i64 b, Value.int IntKind.i64 c] w R :=
  vc_of hm noHints Tryd.func76 ent76 (by kernel_rfl) h

theorem vc56 (a : ByteArray) (w : World) (R : Value → World → Prop)
  (h : loopC (alist [((3 : Nat), Value.string { data := #[] : ByteArray }), ((4 : Nat), Value.int IntKind.i64 (0 : Int))]) w fun u0 u1 => ∀ (u2 : Nat → Value) (w3 : World), u0 (alist [((3 : Nat), u2 (3 : Nat)), ((4 : Nat), u2 (4 : Nat))]) w3 → isK IntKind.i64 (u2 (4 : Nat)) fun i5 => br (decide (i5 < (↑(ByteArray.size a) : Int))) (isStr (u2 (3 : Nat)) fun x6 => isK IntKind.i64 (u2 (4 : Nat)) fun i7 => runs Tryd.prog (Instr.index (9 : Nat) (Value.string a) (Value.int IntKind.i64 i7)) w3 fun v8 w9 => isK IntKind.u8 v8 fun i10 => callV Tryd.prog (77 : Nat) [Value.int IntKind.u64 (IntKind.wrap IntKind.u64 i10), Value.int IntKind.i64 (8 : Int)] w9 fun v11 w12 => isStr v11 fun x13 => rd (orO (binV BinOp.add (Value.string x6) (Value.string x13)) none) fun v14 => isStr v14 fun x15 => isK IntKind.i64 (u2 (4 : Nat)) fun i16 => again u0 u1 (alist [((3 : Nat), Value.string x15), ((4 : Nat), Value.int IntKind.i64 (IntKind.wrap IntKind.i64 (i16 + (1 : Int))))]) w12 (alist [((3 : Nat), u2 (3 : Nat)), ((4 : Nat), u2 (4 : Nat))]) w3) (isStr (u2 (3 : Nat)) fun x17 => R (Value.string x17) w3)) :
  callV Tryd.prog 56 [Value.string a] w R :=
  vc_of hm ⟨fun _ => false, fun _ => .done, fun n => match n with | 3 => [3, 4] | _ => []⟩ Tryd.func56 ent56 (by kernel_rfl) h

theorem vc77 (a : Int) (b : Int) (w : World) (R : Value → World → Prop)
  (h : loopC (alist [((0 : Nat), Value.int IntKind.u64 a), ((5 : Nat), Value.string { data := #[] : ByteArray }), ((6 : Nat), Value.int IntKind.i64 (0 : Int))]) w fun u0 u1 => ∀ (u2 : Nat → Value) (w3 : World), u0 (alist [((0 : Nat), u2 (0 : Nat)), ((5 : Nat), u2 (5 : Nat)), ((6 : Nat), u2 (6 : Nat))]) w3 → isK IntKind.i64 (u2 (6 : Nat)) fun i5 => callV Tryd.prog (90 : Nat) [Value.int IntKind.i64 b] w3 fun v6 w7 => isK IntKind.i64 v6 fun i8 => br (decide (i5 < i8)) (isK IntKind.u64 (u2 (0 : Nat)) fun i9 => runs Tryd.prog (Instr.buildSlice (25 : Nat) (1 : Nat) #[((0 : Nat), Value.int IntKind.u8 (IntKind.wrap IntKind.u8 (IntKind.wrap IntKind.u64 ((48 : Int) + Int.tmod i9 (2 : Int)))))]) w7 fun v10 w11 => isSl v10 fun o12 n13 n14 => runs Tryd.prog (convert (25 : Nat) (9 : Nat) (Value.slice o12 n13 n14)) w11 fun v15 w16 => isStr v15 fun x17 => isStr (u2 (5 : Nat)) fun x18 => rd (orO (binV BinOp.add (Value.string x17) (Value.string x18)) none) fun v19 => isStr v19 fun x20 => isK IntKind.u64 (u2 (0 : Nat)) fun i21 => isK IntKind.i64 (u2 (6 : Nat)) fun i22 => again u0 u1 (alist [((0 : Nat), Value.int IntKind.u64 (IntKind.wrap IntKind.u64 (Int.tdiv i21 (2 : Int)))), ((5 : Nat), Value.string x20), ((6 : Nat), Value.int IntKind.i64 (IntKind.wrap IntKind.i64 (i22 + (1 : Int))))]) w16 (alist [((0 : Nat), u2 (0 : Nat)), ((5 : Nat), u2 (5 : Nat)), ((6 : Nat), u2 (6 : Nat))]) w3) (isStr (u2 (5 : Nat)) fun x23 => R (Value.string x23) w7)) :
  callV Tryd.prog 77 [Value.int IntKind.u64 a, Value.int IntKind.i64 b] w R :=
  vc_of hm ⟨fun _ => false, fun _ => .done, fun n => match n with | 3 => [0, 5, 6] | _ => []⟩ Tryd.func77 ent77 (by kernel_rfl) h

theorem vc79 (a : ByteArray) (w : World) (R : Value → World → Prop)
  (h : loopC (alist [((0 : Nat), Value.string a)]) w fun u0 u1 => ∀ (u2 : Nat → Value) (w3 : World), u0 (alist [((0 : Nat), u2 (0 : Nat))]) w3 → isStr (u2 (0 : Nat)) fun x5 => br (!decide (Int.tmod (↑(ByteArray.size x5) : Int) (8 : Int) = (0 : Int))) (isStr (u2 (0 : Nat)) fun x6 => rd (orO (binV BinOp.add (Value.string x6) (Value.string { data := #[(48 : UInt8)] : ByteArray })) none) fun v7 => isStr v7 fun x8 => again u0 u1 (alist [((0 : Nat), Value.string x8)]) w3 (alist [((0 : Nat), u2 (0 : Nat))]) w3) (loopC (alist [((3 : Nat), Value.string { data := #[] : ByteArray }), ((4 : Nat), Value.int IntKind.i64 (0 : Int))]) w3 fun u9 u10 => ∀ (u11 : Nat → Value) (w12 : World), u9 (alist [((3 : Nat), u11 (3 : Nat)), ((4 : Nat), u11 (4 : Nat))]) w12 → isK IntKind.i64 (u11 (4 : Nat)) fun i14 => isStr (u2 (0 : Nat)) fun x15 => br (decide (i14 < (↑(ByteArray.size x15) : Int))) (isStr (u11 (3 : Nat)) fun x16 => isStr (u2 (0 : Nat)) fun x17 => isK IntKind.i64 (u11 (4 : Nat)) fun i18 => isK IntKind.i64 (u11 (4 : Nat)) fun i19 => runs Tryd.prog (Instr.sliceAt (9 : Nat) (Value.string x17) (some (Value.int IntKind.i64 i18)) (some (Value.int IntKind.i64 (IntKind.wrap IntKind.i64 (i19 + (8 : Int))))) none) w12 fun v20 w21 => isStr v20 fun x22 => callV Tryd.prog (84 : Nat) [Value.string x22] w21 fun v23 w24 => isK IntKind.u64 v23 fun i25 => runs Tryd.prog (Instr.buildSlice (25 : Nat) (1 : Nat) #[((0 : Nat), Value.int IntKind.u8 (IntKind.wrap IntKind.u8 i25))]) w24 fun v26 w27 => isSl v26 fun o28 n29 n30 => runs Tryd.prog (convert (25 : Nat) (9 : Nat) (Value.slice o28 n29 n30)) w27 fun v31 w32 => isStr v31 fun x33 => rd (orO (binV BinOp.add (Value.string x16) (Value.string x33)) none) fun v34 => isStr v34 fun x35 => isK IntKind.i64 (u11 (4 : Nat)) fun i36 => again u9 u10 (alist [((3 : Nat), Value.string x35), ((4 : Nat), Value.int IntKind.i64 (IntKind.wrap IntKind.i64 (i36 + (8 : Int))))]) w32 (alist [((3 : Nat), u11 (3 : Nat)), ((4 : Nat), u11 (4 : Nat))]) w12) (isStr (u11 (3 : Nat)) fun x37 => R (Value.string x37) w12))) :
  callV Tryd.prog 79 [Value.string a] w R :=
  vc_of hm ⟨fun _ => false, fun _ => .done, fun n => match n with | 2 => [0] | 5 => [3, 4] | _ => []⟩ Tryd.func79 ent79 (by kernel_rfl) h

theorem vc84 (a : ByteArray) (w : World) (R : Value → World → Prop)
  (h : loopC (alist [((3 : Nat), Value.int IntKind.u64 (0 : Int)), ((4 : Nat), Value.int IntKind.i64 (0 : Int))]) w fun u0 u1 => ∀ (u2 : Nat → Value) (w3 : World), u0 (alist [((3 : Nat), u2 (3 : Nat)), ((4 : Nat), u2 (4 : Nat))]) w3 → isK IntKind.i64 (u2 (4 : Nat)) fun i5 => br (decide (i5 < (↑(ByteArray.size a) : Int))) (isK IntKind.u64 (u2 (3 : Nat)) fun i6 => isK IntKind.i64 (u2 (4 : Nat)) fun i7 => runs Tryd.prog (Instr.index (9 : Nat) (Value.string a) (Value.int IntKind.i64 i7)) w3 fun v8 w9 => isK IntKind.u8 v8 fun i10 => isK IntKind.i64 (u2 (4 : Nat)) fun i11 => again u0 u1 (alist [((3 : Nat), Value.int IntKind.u64 (IntKind.wrap IntKind.u64 (IntKind.wrap IntKind.u64 (i6 * (2 : Int)) + IntKind.wrap IntKind.u64 (IntKind.wrap IntKind.u8 (i10 - (48 : Int)))))), ((4 : Nat), Value.int IntKind.i64 (IntKind.wrap IntKind.i64 (i11 + (1 : Int))))]) w9 (alist [((3 : Nat), u2 (3 : Nat)), ((4 : Nat), u2 (4 : Nat))]) w3) (isK IntKind.u64 (u2 (3 : Nat)) fun i12 => R (Value.int IntKind.u64 i12) w3)) :
  callV Tryd.prog 84 [Value.string a] w R :=
  vc_of hm ⟨fun _ => false, fun _ => .done, fun n => match n with | 3 => [3, 4] | _ => []⟩ Tryd.func84 ent84 (by kernel_rfl) h

theorem vc90 (a : Int) (w : World) (R : Value → World → Prop)
  (h : R (Value.int IntKind.i64 (max (0 : Int) (min a (64 : Int)))) w) :
  callV Tryd.prog 90 [Value.int IntKind.i64 a] w R :=
  vc_of hm noHints Tryd.func90 ent90 (by kernel_rfl) h

theorem vc91 (a0 : Int) (a1 : Int) (a2 : Int) (b : Int) (w : World) (R : Value → World → Prop)
  (h : allocC w (Obj.cells #[Value.int IntKind.i64 a0, Value.int IntKind.i64 a1, Value.int IntKind.i64 a2] (51 : Nat)) fun n0 w1 => heldC (World.drew w1) fun u2 => (∀ (w3 : World), u2 w3 → Value.pointer (some { block := n0, off := (0 : Nat) : Addr }) = Value.pointer (some { block := n0, off := (0 : Nat) : Addr }) ∧ w3 = w3) ∧ rd (World.cell? (World.drew w1) { block := n0, off := (0 : Nat) : Addr }) fun v5 => (∀ (w6 : World), u2 w6 → rd (World.cell? w6 { block := n0, off := (0 : Nat) : Addr }) fun v8 => v8 = v5 ∧ w6 = w6) ∧ isK IntKind.i64 v5 fun i9 => (∀ (w10 : World), u2 w10 → Value.int IntKind.u64 (IntKind.wrap IntKind.u64 i9) = Value.int IntKind.u64 (IntKind.wrap IntKind.u64 i9) ∧ w10 = w10) ∧ (∀ (w12 : World), u2 w12 → Value.int IntKind.i64 b = Value.int IntKind.i64 b ∧ w12 = w12) ∧ (∀ (w14 : World), u2 w14 → Value.pointer (some { block := n0, off := (1 : Nat) : Addr }) = Value.pointer (some { block := n0, off := (1 : Nat) : Addr }) ∧ w14 = w14) ∧ rd (World.cell? (World.drew w1) { block := n0, off := (1 : Nat) : Addr }) fun v16 => (∀ (w17 : World), u2 w17 → rd (World.cell? w17 { block := n0, off := (1 : Nat) : Addr }) fun v19 => v19 = v16 ∧ w17 = w17) ∧ isK IntKind.i64 v16 fun i20 => (∀ (w21 : World), u2 w21 → Value.int IntKind.u64 (IntKind.wrap IntKind.u64 i20) = Value.int IntKind.u64 (IntKind.wrap IntKind.u64 i20) ∧ w21 = w21) ∧ (∀ (w23 : World), u2 w23 → Value.int IntKind.i64 b = Value.int IntKind.i64 b ∧ w23 = w23) ∧ (∀ (w25 : World), u2 w25 → Value.pointer (some { block := n0, off := (2 : Nat) : Addr }) = Value.pointer (some { block := n0, off := (2 : Nat) : Addr }) ∧ w25 = w25) ∧ rd (World.cell? (World.drew w1) { block := n0, off := (2 : Nat) : Addr }) fun v27 => (∀ (w28 : World), u2 w28 → rd (World.cell? w28 { block := n0, off := (2 : Nat) : Addr }) fun v30 => v30 = v27 ∧ w28 = w28) ∧ isK IntKind.i64 v27 fun i31 => (∀ (w32 : World), u2 w32 → Value.int IntKind.u64 (IntKind.wrap IntKind.u64 i31) = Value.int IntKind.u64 (IntKind.wrap IntKind.u64 i31) ∧ w32 = w32) ∧ (∀ (w34 : World), u2 w34 → Value.int IntKind.i64 b = Value.int IntKind.i64 b ∧ w34 = w34) ∧ callV Tryd.prog (77 : Nat) [Value.int IntKind.u64 (IntKind.wrap IntKind.u64 i9), Value.int IntKind.i64 b] (World.drew w1) fun v36 w37 => isStr v36 fun x38 => u2 w37 ∧ callV Tryd.prog (77 : Nat) [Value.int IntKind.u64 (IntKind.wrap IntKind.u64 i20), Value.int IntKind.i64 b] w37 fun v39 w40 => isStr v39 fun x41 => u2 w40 ∧ rd (orO (binV BinOp.add (Value.string x38) (Value.string x41)) none) fun v42 => (∀ (w43 : World), u2 w43 → rd (orO (binV BinOp.add (Value.string x38) (Value.string x41)) none) fun v45 => v45 = v42 ∧ w43 = w43) ∧ isStr v42 fun x46 => callV Tryd.prog (77 : Nat) [Value.int IntKind.u64 (IntKind.wrap IntKind.u64 i31), Value.int IntKind.i64 b] w40 fun v47 w48 => isStr v47 fun x49 => u2 w48 ∧ rd (orO (binV BinOp.add (Value.string x46) (Value.string x49)) none) fun v50 => (∀ (w51 : World), u2 w51 → rd (orO (binV BinOp.add (Value.string x46) (Value.string x49)) none) fun v53 => v53 = v50 ∧ w51 = w51) ∧ isStr v50 fun x54 => (∀ (w55 : World), u2 w55 → Value.string x54 = Value.string x54 ∧ w55 = w55) ∧ R (Value.string x54) w48) :
  callV Tryd.prog 91 [Value.agg #[Value.int IntKind.i64 a0, Value.int IntKind.i64 a1, Value.int IntKind.i64 a2], Value.int IntKind.i64 b] w R :=
  vc_of hm ⟨fun _ => false, fun n => match n with | 1 => .take 0 (.take 1 (.take 2 (.take 3 (.take 5 (.take 6 (.take 7 (.take 8 (.take 11 (.take 12 (.take 13 (.take 14 (.one 4 (.one 9 (.take 10 (.one 15 (.take 16 (.take 17 (.done)))))))))))))))))) | _ => .done, fun _ => []⟩ Tryd.func91 ent91 (by kernel_rfl) h

end Go.Proofs.YtipikchkbmgloaaDoor
namespace Go.Proofs.YtipikchkbmgloaaDoor
set_option linter.unusedSimpArgs false
set_option linter.unusedVariables false
open Go Go.RowKit VC
def txt (bs : List Int) : ByteArray := strOfNums (bs.map (48 + ·))
theorem strOfNums_app (xs ys : List Int) : strOfNums xs ++ strOfNums ys = strOfNums (xs ++ ys) := by
  unfold strOfNums
  rw [ByteArray.mk_append_mk, List.map_append]
theorem txt_app (xs ys : List Int) : txt xs ++ txt ys = txt (xs ++ ys) := by unfold txt; rw [strOfNums_app, List.map_append]
theorem txt_size (bs : List Int) : (txt bs).size = bs.length := by unfold txt; rw [strOfNums_size, List.length_map]
theorem bv_cat {a b : ByteArray} (h : a.size + b.size ≤ 9223372036854775807) : binV .add (.string a) (.string b) = some (.string (a ++ b)) := catS_of h
theorem txt_r {bs : List Int} (h : ∀ b ∈ bs, Bit b) : ∀ y ∈ bs.map (48 + ·), 0 ≤ y ∧ y < 256 := by
  intro y hy
  obtain ⟨b, hb, rfl⟩ := List.mem_map.1 hy
  have := h b hb
  unfold Bit at this
  omega
theorem emptyS : ({ data := #[] } : ByteArray) = txt [] := rfl
variable {w : World}
theorem cat_txt {K : Value → Prop} {xs ys : List Int} (h : xs.length + ys.length ≤ 1000000000) (k : K (.string (txt (xs ++ ys)))) : rd (orO (binV .add (.string (txt xs)) (.string (txt ys))) none) K := by
  rw [bv_cat (by rw [txt_size, txt_size]; omega), txt_app]
  exact k
theorem count61_c (k : Nat) (hk : k ≤ 64) : callV Tryd.prog 90 [.int .i64 k] w fun v w' => v = .int .i64 k ∧ w' = w := by
  refine vc90 k w _ ⟨?_, rfl⟩
  congr 1; omega
set_option maxRecDepth 20000 in
theorem text47_c (m k : Nat) (hm : m < 18446744073709551616) (hk : k ≤ 64) : callV Tryd.prog 77 [.int .u64 m, .int .i64 k] w fun v w' => v = .string (txt (bitsOf (m : Int) k)) ∧ Fm none' w w' := by
  refine vc77 m k w _ ?_
  refine ⟨fun u w' => ∃ i : Nat, i ≤ k ∧ u 0 = .int .u64 ((m / 2 ^ i : Nat) : Int) ∧ u 5 = .string (txt (bitsOf (m : Int) i)) ∧ u 6 = .int .i64 i ∧ Fm none' w w', fun u _ => k - (intOf (u 6)).toNat, ⟨0, by omega, by simp [alist], rfl, rfl, Fm.refl _ _⟩, ?_⟩
  rintro u w3 ⟨i, hi, h0, h5, h6, hF⟩
  change u 0 = _ at h0
  change u 5 = _ at h5
  change u 6 = _ at h6
  simp only [h0, h5, h6, vcs, eqV, nilV, Option.map_some, Nat.mul_one, implies_true, true_and, and_true, and_self]
  refine (count61_c k hk).mono ?_
  rintro _ w7 ⟨rfl, rfl⟩
  simp only [vcs, eqV, nilV, Option.map_some, Nat.mul_one, implies_true, true_and, and_true, and_self]
  refine br_dec (fun hik => ?_) (fun hik => ?_)
  · have hb : bitAt (m : Int) i = ((m / 2 ^ i % 2 : Nat) : Int) := by rw [bitAt_nat _ _ (by omega), Nat.toNat_testBit]
    have ht : Int.tmod ((m / 2 ^ i : Nat) : Int) 2 = ((m / 2 ^ i % 2 : Nat) : Int) := by rw [Int.tmod_eq_emod_of_nonneg (Int.natCast_nonneg _)]; norm_cast
    have hd : Int.tdiv ((m / 2 ^ i : Nat) : Int) 2 = ((m / 2 ^ (i + 1) : Nat) : Int) := by
      rw [Int.tdiv_eq_ediv_of_nonneg (Int.natCast_nonneg _), Nat.pow_succ, ← Nat.div_div_eq_div_mul]; norm_cast
    have hlt : m / 2 ^ (i + 1) ≤ m := Nat.div_le_self _ _
    rw [ht, hd, u64n (by omega), w64 (by omega)]
    rw [show (48 : Int) + ((m / 2 ^ i % 2 : Nat) : Int) = ((48 + m / 2 ^ i % 2 : Nat) : Int) by push_cast; rfl, u64n (by omega), u8n (by omega)]
    refine build_1 (by rw [row25]) row5 rfl rfl fun w11 hb11 hs11 hf11 => ?_
    simp only [vcs, eqV, nilV, Option.map_some, Nat.mul_one, implies_true, true_and, and_true, and_self]
    refine conv_bytes (ys := [((48 + m / 2 ^ i % 2 : Nat) : Int)]) (by rw [row25]) (by rw [row5]) (by rw [row9]) rfl (fun j y hj => ?_) ?_
    · obtain rfl : j = 0 := by have := (List.getElem?_eq_some_iff.1 hj).1; simp at this; omega
      simp at hj; subst hj
      exact ⟨_, rfl, cellOf hb11 (by simp)⟩
    simp only [vcs, eqV, nilV, Option.map_some, Nat.mul_one, implies_true, true_and, and_true, and_self]
    have e1 : strOfNums [((48 + m / 2 ^ i % 2 : Nat) : Int)] = txt [bitAt (m : Int) i] := by
      unfold txt; rw [hb]; simp
    rw [e1]
    refine cat_txt (by simp [bitsOf_length]; omega) ?_
    simp only [vcs, eqV, nilV, Option.map_some, Nat.mul_one, implies_true, true_and, and_true, and_self]
    refine ⟨⟨i + 1, by omega, rfl, ?_, rfl, hF.trans hf11⟩, ?_⟩
    · show Value.string _ = _
      rw [bitsOf_succ]; rfl
    · show k - ((i : Int) + 1).toNat < k - (i : Int).toNat; omega
  · obtain rfl : i = k := by omega
    exact ⟨rfl, hF⟩
theorem val_take_succ {bs : List Int} {j : Nat} {b : Int} (h : bs[j]? = some b) : val (bs.take (j + 1)) = 2 * val (bs.take j) + b := by
  rw [List.take_add_one, h]
  exact val_snoc _ _
set_option maxRecDepth 20000 in
theorem number55_c {bs : List Int} (hb : ∀ b ∈ bs, Bit b) (hl : bs.length ≤ 64) : callV Tryd.prog 84 [.string (txt bs)] w fun v w' => v = .int .u64 (val bs) ∧ Fm none' w w' := by
  refine vc84 _ w _ ?_
  rw [txt_size]
  refine ⟨fun u w' => ∃ j : Nat, j ≤ bs.length ∧ u 3 = .int .u64 (val (bs.take j)) ∧ u 4 = .int .i64 j ∧ Fm none' w w', fun u _ => bs.length - (intOf (u 4)).toNat, ⟨0, by omega, rfl, rfl, Fm.refl _ _⟩, ?_⟩
  rintro u w3 ⟨j, hj, h3, h4, hF⟩
  change u 3 = _ at h3
  change u 4 = _ at h4
  simp only [h3, h4, vcs, eqV, nilV, Option.map_some, Nat.mul_one, implies_true, true_and, and_true, and_self]
  refine br_dec (fun hjl => ?_) (fun hjl => ?_)
  · obtain ⟨b, hbj⟩ : ∃ b, bs[j]? = some b := ⟨bs[j]'(by omega), by simp⟩
    have hbb := hb b (List.mem_of_getElem? hbj)
    refine index_str (ys := bs.map (48 + ·)) (by rw [row9]) (txt_r hb) (by rw [List.getElem?_map, hbj]; rfl) ?_
    simp only [vcs, eqV, nilV, Option.map_some, Nat.mul_one, implies_true, true_and, and_true, and_self]
    have hv := val_take_succ hbj
    have hlt := val_bound (bs := bs.take (j + 1)) fun x hx => hb x (List.mem_of_mem_take hx)
    have hl1 : (bs.take (j + 1)).length = j + 1 := by rw [List.length_take]; omega
    rw [hl1] at hlt
    have hpw : (2 : Int) ^ (j + 1) ≤ 18446744073709551616 := by
      have : (2 : Nat) ^ (j + 1) ≤ 2 ^ 64 := Nat.pow_le_pow_right (by omega) (by omega)
      have h64 : (2 : Nat) ^ 64 = 18446744073709551616 := rfl
      rw [h64] at this
      have h2 := Int.ofNat_le.2 this
      rw [Int.natCast_pow] at h2
      exact h2
    have h0 := (val_bound (bs := bs.take j) fun x hx => hb x (List.mem_of_mem_take hx)).1
    have e1 : IntKind.u8.wrap (48 + b - 48) = b := by rcases hbb with rfl | rfl <;> rfl
    unfold Bit at hbb
    rw [e1, u64w b, u64w (val (bs.take j) * 2), u64w, w64 (by omega)]
    refine ⟨⟨j + 1, by omega, ?_, rfl, hF⟩, ?_⟩
    · show Value.int _ _ = Value.int _ _
      congr 1
      rw [hv]
      omega
    · show bs.length - ((j : Int) + 1).toNat < bs.length - (j : Int).toNat; omega
  · have : j = bs.length := by omega
    subst this
    rw [List.take_length]
    exact ⟨rfl, hF⟩
end Go.Proofs.YtipikchkbmgloaaDoor
namespace Go.Proofs.YtipikchkbmgloaaDoor
set_option linter.unusedSimpArgs false
set_option linter.unusedVariables false
open Go VC
theorem vc50 (a0 : Int) (a1 : Int) (a20 : Int) (a21 : Int) (a22 : Int) (a23 : Int) (a24 : Int) (a3 : Int) (a4 : Int) (a5 : Int) (a60 : Int) (a61 : Int) (a62 : Int) (a7 : Int) (a80 : Int) (a81 : Int) (a82 : Int) (a90 : Int) (a91 : Int) (a92 : Int) (a10 : Int) (a11 : Int) (a12p : Option Addr) (a12n : Nat) (a12c : Nat) (w : World) (R : Value → World → Prop)
  (h : allocC w (Obj.cells #[Value.int IntKind.i64 a0, Value.int IntKind.u16 a1, Value.int IntKind.u16 a20, Value.int IntKind.u8 a21, Value.int IntKind.i8 a22, Value.int IntKind.i8 a23, Value.int IntKind.i64 a24, Value.int IntKind.u16 a3, Value.int IntKind.i64 a4, Value.int IntKind.i64 a5, Value.int IntKind.i64 a60, Value.int IntKind.i64 a61, Value.int IntKind.i64 a62, Value.int IntKind.i64 a7, Value.int IntKind.i64 a80, Value.int IntKind.i64 a81, Value.int IntKind.i64 a82, Value.int IntKind.i64 a90, Value.int IntKind.i64 a91, Value.int IntKind.i64 a92, Value.int IntKind.u32 a10, Value.int IntKind.u32 a11, Value.slice a12p a12n a12c] (53 : Nat)) fun n0 w1 => cutC (fun u2 => heldC (World.drew w1) fun u3 => rd (cellsAt (World.drew w1) { block := n0, off := (0 : Nat) : Addr } (23 : Nat)) fun l4 => (∀ (w5 : World), u3 w5 → rd (cellsAt w5 { block := n0, off := (0 : Nat) : Addr } (23 : Nat)) fun l7 => Value.agg (List.toArray l7) = Value.agg (List.toArray l4) ∧ w5 = w5) ∧ rd (cellsAt (World.drew w1) { block := n0, off := (0 : Nat) : Addr } (23 : Nat)) fun l8 => (∀ (w9 : World), u3 w9 → rd (cellsAt w9 { block := n0, off := (0 : Nat) : Addr } (23 : Nat)) fun l11 => Value.agg (List.toArray l11) = Value.agg (List.toArray l8) ∧ w9 = w9) ∧ callV Tryd.prog (75 : Nat) [Value.agg (List.toArray l8)] (World.drew w1) fun v12 w13 => u3 w13 ∧ callV Tryd.prog (74 : Nat) [Value.agg (List.toArray l4), v12] w13 fun v14 w15 => isB v14 fun t16 => u3 w15 ∧ (∀ (w17 : World), u3 w17 → Value.bool t16 = Value.bool t16 ∧ w17 = w17) ∧ u2 (alist [((3 : Nat), Value.bool t16)]) w15) fun u19 => ∀ (u20 : Nat → Value) (w21 : World), u19 (alist [((3 : Nat), u20 (3 : Nat))]) w21 → cutC (fun u23 => isB (u20 (3 : Nat)) fun t24 => br (!t24) (R (Value.bool false) w21) (rd (World.cell? w21 { block := n0, off := (0 : Nat) : Addr }) fun v25 => isK IntKind.i64 v25 fun i26 => br (decide (i26 < (1 : Int))) (R (Value.bool false) w21) (rd (World.cell? w21 { block := n0, off := (0 : Nat) : Addr }) fun v27 => isK IntKind.i64 v27 fun i28 => br (decide ((9 : Int) < i28)) (R (Value.bool false) w21) (u23 (alist []) w21)))) fun u29 => ∀ (u30 : Nat → Value) (w31 : World), u29 (alist []) w31 → rd (World.cell? w31 { block := n0, off := (0 : Nat) : Addr }) fun v33 => isK IntKind.i64 v33 fun i34 => br (decide (i34 = (2 : Int))) (rd (World.cell? w31 { block := n0, off := (3 : Nat) : Addr }) fun v35 => isK IntKind.u8 v35 fun i36 => br (decide (i36 < (4 : Int))) (rd (World.cell? w31 { block := n0, off := (6 : Nat) : Addr }) fun v37 => isK IntKind.i64 v37 fun i38 => br (decide ((1 : Int) ≤ i38)) (rd (World.cell? w31 { block := n0, off := (6 : Nat) : Addr }) fun v39 => isK IntKind.i64 v39 fun i40 => R (Value.bool (decide (i40 ≤ (8 : Int)))) w31) (R (Value.bool false) w31)) (R (Value.bool false) w31)) (br (decide (i34 = (3 : Int))) (rd (World.cell? w31 { block := n0, off := (9 : Nat) : Addr }) fun v41 => isK IntKind.i64 v41 fun i42 => br (decide (i42 = (0 : Int))) (rd (cellsAt w31 { block := n0, off := (10 : Nat) : Addr } (3 : Nat)) fun l43 => callV Tryd.prog (76 : Nat) [Value.agg (List.toArray l43), Value.int IntKind.i64 (-65536 : Int), Value.int IntKind.i64 (65536 : Int)] w31 fun v44 w45 => isB v44 fun t46 => R (Value.bool t46) w45) (rd (World.cell? w31 { block := n0, off := (9 : Nat) : Addr }) fun v47 => isK IntKind.i64 v47 fun i48 => br (decide (i48 = (1 : Int))) (rd (cellsAt w31 { block := n0, off := (10 : Nat) : Addr } (3 : Nat)) fun l49 => callV Tryd.prog (76 : Nat) [Value.agg (List.toArray l49), Value.int IntKind.i64 (-65536 : Int), Value.int IntKind.i64 (65536 : Int)] w31 fun v50 w51 => isB v50 fun t52 => R (Value.bool t52) w51) (R (Value.bool false) w31))) (br (decide (i34 = (5 : Int))) (rd (World.cell? w31 { block := n0, off := (8 : Nat) : Addr }) fun v53 => isK IntKind.i64 v53 fun i54 => br (decide ((1 : Int) ≤ i54)) (rd (World.cell? w31 { block := n0, off := (8 : Nat) : Addr }) fun v55 => isK IntKind.i64 v55 fun i56 => R (Value.bool (decide (i56 ≤ (2147483647 : Int)))) w31) (R (Value.bool false) w31)) (br (decide (i34 = (7 : Int))) (rd (World.cell? w31 { block := n0, off := (8 : Nat) : Addr }) fun v57 => isK IntKind.i64 v57 fun i58 => br (decide ((1 : Int) ≤ i58)) (rd (World.cell? w31 { block := n0, off := (8 : Nat) : Addr }) fun v59 => isK IntKind.i64 v59 fun i60 => R (Value.bool (decide (i60 ≤ (2147483647 : Int)))) w31) (R (Value.bool false) w31)) (br (decide (i34 = (6 : Int))) (rd (cellsAt w31 { block := n0, off := (14 : Nat) : Addr } (3 : Nat)) fun l61 => callV Tryd.prog (76 : Nat) [Value.agg (List.toArray l61), Value.int IntKind.i64 (-2147483648 : Int), Value.int IntKind.i64 (2147483647 : Int)] w31 fun v62 w63 => isB v62 fun t64 => br t64 (rd (cellsAt w63 { block := n0, off := (17 : Nat) : Addr } (3 : Nat)) fun l65 => callV Tryd.prog (76 : Nat) [Value.agg (List.toArray l65), Value.int IntKind.i64 (-2147483648 : Int), Value.int IntKind.i64 (2147483647 : Int)] w63 fun v66 w67 => isB v66 fun t68 => R (Value.bool t68) w67) (R (Value.bool false) w63)) (br (decide (i34 = (8 : Int))) (rd (World.cell? w31 { block := n0, off := (13 : Nat) : Addr }) fun v69 => isK IntKind.i64 v69 fun i70 => br (decide ((1 : Int) ≤ i70)) (rd (World.cell? w31 { block := n0, off := (13 : Nat) : Addr }) fun v71 => isK IntKind.i64 v71 fun i72 => R (Value.bool (decide (i72 ≤ (10 : Int)))) w31) (R (Value.bool false) w31)) (br (decide (i34 = (9 : Int))) (rd (World.cell? w31 { block := n0, off := (22 : Nat) : Addr }) fun v73 => isSl v73 fun o74 n75 n76 => R (Value.bool (decide ((↑n75 : Int) ≤ (1023 : Int)))) w31) (R (Value.bool true) w31)))))))) :
  callV Tryd.prog 50 [Value.agg #[Value.int IntKind.i64 a0, Value.int IntKind.u16 a1, Value.int IntKind.u16 a20, Value.int IntKind.u8 a21, Value.int IntKind.i8 a22, Value.int IntKind.i8 a23, Value.int IntKind.i64 a24, Value.int IntKind.u16 a3, Value.int IntKind.i64 a4, Value.int IntKind.i64 a5, Value.int IntKind.i64 a60, Value.int IntKind.i64 a61, Value.int IntKind.i64 a62, Value.int IntKind.i64 a7, Value.int IntKind.i64 a80, Value.int IntKind.i64 a81, Value.int IntKind.i64 a82, Value.int IntKind.i64 a90, Value.int IntKind.i64 a91, Value.int IntKind.i64 a92, Value.int IntKind.u32 a10, Value.int IntKind.u32 a11, Value.slice a12p a12n a12c]] w R :=
  vc_of hm ⟨fun n => match n with | 2 => true | 4 => true | _ => false, fun n => match n with | 1 => .take 0 (.take 1 (.one 2 (.one 3 (.take 4 (.done))))) | _ => .done, fun n => match n with | 2 => [3] | 4 => [] | _ => []⟩ Tryd.func50 ent50 (by kernel_rfl) h

theorem vc75 (a0 : Int) (a1 : Int) (a20 : Int) (a21 : Int) (a22 : Int) (a23 : Int) (a24 : Int) (a3 : Int) (a4 : Int) (a5 : Int) (a60 : Int) (a61 : Int) (a62 : Int) (a7 : Int) (a80 : Int) (a81 : Int) (a82 : Int) (a90 : Int) (a91 : Int) (a92 : Int) (a10 : Int) (a11 : Int) (a12p : Option Addr) (a12n : Nat) (a12c : Nat) (w : World) (R : Value → World → Prop)
  (h : allocC w (Obj.cells #[Value.int IntKind.i64 a0, Value.int IntKind.u16 a1, Value.int IntKind.u16 a20, Value.int IntKind.u8 a21, Value.int IntKind.i8 a22, Value.int IntKind.i8 a23, Value.int IntKind.i64 a24, Value.int IntKind.u16 a3, Value.int IntKind.i64 a4, Value.int IntKind.i64 a5, Value.int IntKind.i64 a60, Value.int IntKind.i64 a61, Value.int IntKind.i64 a62, Value.int IntKind.i64 a7, Value.int IntKind.i64 a80, Value.int IntKind.i64 a81, Value.int IntKind.i64 a82, Value.int IntKind.i64 a90, Value.int IntKind.i64 a91, Value.int IntKind.i64 a92, Value.int IntKind.u32 a10, Value.int IntKind.u32 a11, Value.slice a12p a12n a12c] (53 : Nat)) fun n0 w1 => allocC w1 (Obj.cells #[Value.int IntKind.i64 (0 : Int), Value.int IntKind.u16 (0 : Int), Value.int IntKind.u16 (0 : Int), Value.int IntKind.u8 (0 : Int), Value.int IntKind.i8 (0 : Int), Value.int IntKind.i8 (0 : Int), Value.int IntKind.i64 (0 : Int), Value.int IntKind.u16 (0 : Int), Value.int IntKind.i64 (0 : Int), Value.int IntKind.i64 (0 : Int), Value.int IntKind.i64 (0 : Int), Value.int IntKind.i64 (0 : Int), Value.int IntKind.i64 (0 : Int), Value.int IntKind.i64 (0 : Int), Value.int IntKind.i64 (0 : Int), Value.int IntKind.i64 (0 : Int), Value.int IntKind.i64 (0 : Int), Value.int IntKind.i64 (0 : Int), Value.int IntKind.i64 (0 : Int), Value.int IntKind.i64 (0 : Int), Value.int IntKind.u32 (0 : Int), Value.int IntKind.u32 (0 : Int), Value.slice none (0 : Nat) (0 : Nat)] (53 : Nat)) fun n2 w3 => rd (World.cell? w3 { block := n0, off := (0 : Nat) : Addr }) fun v4 => isK IntKind.i64 v4 fun i5 => allocC w3 (Obj.cells #[Value.int IntKind.i64 (0 : Int), Value.int IntKind.u16 (0 : Int), Value.int IntKind.u16 (0 : Int), Value.int IntKind.u8 (0 : Int), Value.int IntKind.i8 (0 : Int), Value.int IntKind.i8 (0 : Int), Value.int IntKind.i64 (0 : Int), Value.int IntKind.u16 (0 : Int), Value.int IntKind.i64 (0 : Int), Value.int IntKind.i64 (0 : Int), Value.int IntKind.i64 (0 : Int), Value.int IntKind.i64 (0 : Int), Value.int IntKind.i64 (0 : Int), Value.int IntKind.i64 (0 : Int), Value.int IntKind.i64 (0 : Int), Value.int IntKind.i64 (0 : Int), Value.int IntKind.i64 (0 : Int), Value.int IntKind.i64 (0 : Int), Value.int IntKind.i64 (0 : Int), Value.int IntKind.i64 (0 : Int), Value.int IntKind.u32 (0 : Int), Value.int IntKind.u32 (0 : Int), Value.slice none (0 : Nat) (0 : Nat)] (53 : Nat)) fun n6 w7 => stC w7 { block := n6, off := (0 : Nat) : Addr } [Value.int IntKind.i64 i5, Value.int IntKind.u16 (0 : Int), Value.int IntKind.u16 (0 : Int), Value.int IntKind.u8 (0 : Int), Value.int IntKind.i8 (0 : Int), Value.int IntKind.i8 (0 : Int), Value.int IntKind.i64 (0 : Int), Value.int IntKind.u16 (0 : Int), Value.int IntKind.i64 (0 : Int), Value.int IntKind.i64 (0 : Int), Value.int IntKind.i64 (0 : Int), Value.int IntKind.i64 (0 : Int), Value.int IntKind.i64 (0 : Int), Value.int IntKind.i64 (0 : Int), Value.int IntKind.i64 (0 : Int), Value.int IntKind.i64 (0 : Int), Value.int IntKind.i64 (0 : Int), Value.int IntKind.i64 (0 : Int), Value.int IntKind.i64 (0 : Int), Value.int IntKind.i64 (0 : Int), Value.int IntKind.u32 (0 : Int), Value.int IntKind.u32 (0 : Int), Value.slice none (0 : Nat) (0 : Nat)] fun w8 => cutC (fun u9 => rd (World.cell? w8 { block := n0, off := (0 : Nat) : Addr }) fun v10 => isK IntKind.i64 v10 fun i11 => br (decide (i11 = (2 : Int))) (rd (cellsAt w8 { block := n0, off := (2 : Nat) : Addr } (5 : Nat)) fun l12 => rd (gd (List.length l12 == (5 : Nat))) fun _x => stC w8 { block := n6, off := (2 : Nat) : Addr } l12 fun w13 => u9 (alist []) w13) (br (decide (i11 = (3 : Int))) (rd (World.cell? w8 { block := n0, off := (7 : Nat) : Addr }) fun v14 => isK IntKind.u16 v14 fun i15 => stC w8 { block := n6, off := (7 : Nat) : Addr } [Value.int IntKind.u16 i15] fun w16 => rd (World.cell? w16 { block := n0, off := (9 : Nat) : Addr }) fun v17 => isK IntKind.i64 v17 fun i18 => stC w16 { block := n6, off := (9 : Nat) : Addr } [Value.int IntKind.i64 i18] fun w19 => rd (cellsAt w19 { block := n0, off := (10 : Nat) : Addr } (3 : Nat)) fun l20 => rd (gd (List.length l20 == (3 : Nat))) fun _x => stC w19 { block := n6, off := (10 : Nat) : Addr } l20 fun w21 => u9 (alist []) w21) (br (decide (i11 = (5 : Int))) (rd (World.cell? w8 { block := n0, off := (8 : Nat) : Addr }) fun v22 => isK IntKind.i64 v22 fun i23 => stC w8 { block := n6, off := (8 : Nat) : Addr } [Value.int IntKind.i64 i23] fun w24 => u9 (alist []) w24) (br (decide (i11 = (6 : Int))) (rd (World.cell? w8 { block := n0, off := (1 : Nat) : Addr }) fun v25 => isK IntKind.u16 v25 fun i26 => stC w8 { block := n6, off := (1 : Nat) : Addr } [Value.int IntKind.u16 i26] fun w27 => rd (cellsAt w27 { block := n0, off := (14 : Nat) : Addr } (3 : Nat)) fun l28 => rd (gd (List.length l28 == (3 : Nat))) fun _x => stC w27 { block := n6, off := (14 : Nat) : Addr } l28 fun w29 => rd (cellsAt w29 { block := n0, off := (17 : Nat) : Addr } (3 : Nat)) fun l30 => rd (gd (List.length l30 == (3 : Nat))) fun _x => stC w29 { block := n6, off := (17 : Nat) : Addr } l30 fun w31 => u9 (alist []) w31) (br (decide (i11 = (7 : Int))) (rd (World.cell? w8 { block := n0, off := (7 : Nat) : Addr }) fun v32 => isK IntKind.u16 v32 fun i33 => stC w8 { block := n6, off := (7 : Nat) : Addr } [Value.int IntKind.u16 i33] fun w34 => rd (World.cell? w34 { block := n0, off := (8 : Nat) : Addr }) fun v35 => isK IntKind.i64 v35 fun i36 => stC w34 { block := n6, off := (8 : Nat) : Addr } [Value.int IntKind.i64 i36] fun w37 => u9 (alist []) w37) (br (decide (i11 = (8 : Int))) (rd (World.cell? w8 { block := n0, off := (7 : Nat) : Addr }) fun v38 => isK IntKind.u16 v38 fun i39 => stC w8 { block := n6, off := (7 : Nat) : Addr } [Value.int IntKind.u16 i39] fun w40 => rd (World.cell? w40 { block := n0, off := (13 : Nat) : Addr }) fun v41 => isK IntKind.i64 v41 fun i42 => stC w40 { block := n6, off := (13 : Nat) : Addr } [Value.int IntKind.i64 i42] fun w43 => u9 (alist []) w43) (br (decide (i11 = (9 : Int))) (rd (World.cell? w8 { block := n0, off := (20 : Nat) : Addr }) fun v44 => isK IntKind.u32 v44 fun i45 => stC w8 { block := n6, off := (20 : Nat) : Addr } [Value.int IntKind.u32 i45] fun w46 => rd (World.cell? w46 { block := n0, off := (21 : Nat) : Addr }) fun v47 => isK IntKind.u32 v47 fun i48 => stC w46 { block := n6, off := (21 : Nat) : Addr } [Value.int IntKind.u32 i48] fun w49 => rd (World.cell? w49 { block := n0, off := (22 : Nat) : Addr }) fun v50 => isSl v50 fun o51 n52 n53 => stC w49 { block := n6, off := (22 : Nat) : Addr } [Value.slice o51 n52 n53] fun w54 => u9 (alist []) w54) (u9 (alist []) w8)))))))) fun u55 => ∀ (u56 : Nat → Value) (w57 : World), u55 (alist []) w57 → rd (cellsAt w57 { block := n6, off := (0 : Nat) : Addr } (23 : Nat)) fun l59 => rd (gd (List.length l59 == (23 : Nat))) fun _x => stC w57 { block := n2, off := (0 : Nat) : Addr } l59 fun w60 => rd (cellsAt w60 { block := n2, off := (0 : Nat) : Addr } (23 : Nat)) fun l61 => R (Value.agg (List.toArray l61)) w60) :
  callV Tryd.prog 75 [Value.agg #[Value.int IntKind.i64 a0, Value.int IntKind.u16 a1, Value.int IntKind.u16 a20, Value.int IntKind.u8 a21, Value.int IntKind.i8 a22, Value.int IntKind.i8 a23, Value.int IntKind.i64 a24, Value.int IntKind.u16 a3, Value.int IntKind.i64 a4, Value.int IntKind.i64 a5, Value.int IntKind.i64 a60, Value.int IntKind.i64 a61, Value.int IntKind.i64 a62, Value.int IntKind.i64 a7, Value.int IntKind.i64 a80, Value.int IntKind.i64 a81, Value.int IntKind.i64 a82, Value.int IntKind.i64 a90, Value.int IntKind.i64 a91, Value.int IntKind.i64 a92, Value.int IntKind.u32 a10, Value.int IntKind.u32 a11, Value.slice a12p a12n a12c]] w R :=
  vc_of hm ⟨fun n => match n with | 25 => true | _ => false, fun _ => .done, fun n => match n with | 25 => [] | _ => []⟩ Tryd.func75 ent75 (by kernel_rfl) h

theorem vc78 (a0 : Int) (a1 : Int) (a20 : Int) (a21 : Int) (a22 : Int) (a23 : Int) (a24 : Int) (a3 : Int) (a4 : Int) (a5 : Int) (a60 : Int) (a61 : Int) (a62 : Int) (a7 : Int) (a80 : Int) (a81 : Int) (a82 : Int) (a90 : Int) (a91 : Int) (a92 : Int) (a10 : Int) (a11 : Int) (a12p : Option Addr) (a12n : Nat) (a12c : Nat) (w : World) (R : Value → World → Prop)
  (h : allocC w (Obj.cells #[Value.int IntKind.i64 a0, Value.int IntKind.u16 a1, Value.int IntKind.u16 a20, Value.int IntKind.u8 a21, Value.int IntKind.i8 a22, Value.int IntKind.i8 a23, Value.int IntKind.i64 a24, Value.int IntKind.u16 a3, Value.int IntKind.i64 a4, Value.int IntKind.i64 a5, Value.int IntKind.i64 a60, Value.int IntKind.i64 a61, Value.int IntKind.i64 a62, Value.int IntKind.i64 a7, Value.int IntKind.i64 a80, Value.int IntKind.i64 a81, Value.int IntKind.i64 a82, Value.int IntKind.i64 a90, Value.int IntKind.i64 a91, Value.int IntKind.i64 a92, Value.int IntKind.u32 a10, Value.int IntKind.u32 a11, Value.slice a12p a12n a12c] (53 : Nat)) fun n0 w1 => rd (World.cell? w1 { block := n0, off := (0 : Nat) : Addr }) fun v2 => isK IntKind.i64 v2 fun i3 => callV Tryd.prog (77 : Nat) [Value.int IntKind.u64 (IntKind.wrap IntKind.u64 i3), Value.int IntKind.i64 (4 : Int)] w1 fun v4 w5 => isStr v4 fun x6 => rd (World.cell? w5 { block := n0, off := (7 : Nat) : Addr }) fun v7 => isK IntKind.u16 v7 fun i8 => callV Tryd.prog (77 : Nat) [Value.int IntKind.u64 (IntKind.wrap IntKind.u64 i8), Value.int IntKind.i64 (16 : Int)] w5 fun v9 w10 => isStr v9 fun x11 => rd (World.cell? w10 { block := n0, off := (0 : Nat) : Addr }) fun v12 => isK IntKind.i64 v12 fun i13 => br (decide (i13 = (2 : Int))) (rd (cellsAt w10 { block := n0, off := (2 : Nat) : Addr } (5 : Nat)) fun l14 => allocC w10 (Obj.cells #[Value.int IntKind.u16 (0 : Int), Value.int IntKind.u8 (0 : Int), Value.int IntKind.i8 (0 : Int), Value.int IntKind.i8 (0 : Int), Value.int IntKind.i64 (0 : Int)] (49 : Nat)) fun n15 w16 => rd (gd (List.length l14 == (5 : Nat))) fun _x => stC w16 { block := n15, off := (0 : Nat) : Addr } l14 fun w17 => heldC (World.drew w17) fun u18 => (∀ (w19 : World), u18 w19 → Value.string x6 = Value.string x6 ∧ w19 = w19) ∧ (∀ (w21 : World), u18 w21 → Value.pointer (some { block := n15, off := (0 : Nat) : Addr }) = Value.pointer (some { block := n15, off := (0 : Nat) : Addr }) ∧ w21 = w21) ∧ rd (World.cell? (World.drew w17) { block := n15, off := (0 : Nat) : Addr }) fun v23 => (∀ (w24 : World), u18 w24 → rd (World.cell? w24 { block := n15, off := (0 : Nat) : Addr }) fun v26 => v26 = v23 ∧ w24 = w24) ∧ isK IntKind.u16 v23 fun i27 => (∀ (w28 : World), u18 w28 → Value.int IntKind.u64 (IntKind.wrap IntKind.u64 i27) = Value.int IntKind.u64 (IntKind.wrap IntKind.u64 i27) ∧ w28 = w28) ∧ (∀ (w30 : World), u18 w30 → Value.pointer (some { block := n15, off := (1 : Nat) : Addr }) = Value.pointer (some { block := n15, off := (1 : Nat) : Addr }) ∧ w30 = w30) ∧ rd (World.cell? (World.drew w17) { block := n15, off := (1 : Nat) : Addr }) fun v32 => (∀ (w33 : World), u18 w33 → rd (World.cell? w33 { block := n15, off := (1 : Nat) : Addr }) fun v35 => v35 = v32 ∧ w33 = w33) ∧ isK IntKind.u8 v32 fun i36 => (∀ (w37 : World), u18 w37 → Value.int IntKind.u64 (IntKind.wrap IntKind.u64 i36) = Value.int IntKind.u64 (IntKind.wrap IntKind.u64 i36) ∧ w37 = w37) ∧ callV Tryd.prog (77 : Nat) [Value.int IntKind.u64 (IntKind.wrap IntKind.u64 i27), Value.int IntKind.i64 (16 : Int)] (World.drew w17) fun v39 w40 => isStr v39 fun x41 => u18 w40 ∧ rd (orO (binV BinOp.add (Value.string x6) (Value.string x41)) none) fun v42 => (∀ (w43 : World), u18 w43 → rd (orO (binV BinOp.add (Value.string x6) (Value.string x41)) none) fun v45 => v45 = v42 ∧ w43 = w43) ∧ isStr v42 fun x46 => callV Tryd.prog (77 : Nat) [Value.int IntKind.u64 (IntKind.wrap IntKind.u64 i36), Value.int IntKind.i64 (2 : Int)] w40 fun v47 w48 => isStr v47 fun x49 => u18 w48 ∧ rd (orO (binV BinOp.add (Value.string x46) (Value.string x49)) none) fun v50 => (∀ (w51 : World), u18 w51 → rd (orO (binV BinOp.add (Value.string x46) (Value.string x49)) none) fun v53 => v53 = v50 ∧ w51 = w51) ∧ isStr v50 fun x54 => (∀ (w55 : World), u18 w55 → Value.string x54 = Value.string x54 ∧ w55 = w55) ∧ heldC (World.drew w48) fun u57 => (∀ (w58 : World), u57 w58 → Value.string x54 = Value.string x54 ∧ w58 = w58) ∧ (∀ (w60 : World), u57 w60 → Value.pointer (some { block := n15, off := (2 : Nat) : Addr }) = Value.pointer (some { block := n15, off := (2 : Nat) : Addr }) ∧ w60 = w60) ∧ rd (World.cell? (World.drew w48) { block := n15, off := (2 : Nat) : Addr }) fun v62 => (∀ (w63 : World), u57 w63 → rd (World.cell? w63 { block := n15, off := (2 : Nat) : Addr }) fun v65 => v65 = v62 ∧ w63 = w63) ∧ isK IntKind.i8 v62 fun i66 => (∀ (w67 : World), u57 w67 → Value.int IntKind.u64 (IntKind.wrap IntKind.u64 i66) = Value.int IntKind.u64 (IntKind.wrap IntKind.u64 i66) ∧ w67 = w67) ∧ (∀ (w69 : World), u57 w69 → Value.pointer (some { block := n15, off := (3 : Nat) : Addr }) = Value.pointer (some { block := n15, off := (3 : Nat) : Addr }) ∧ w69 = w69) ∧ rd (World.cell? (World.drew w48) { block := n15, off := (3 : Nat) : Addr }) fun v71 => (∀ (w72 : World), u57 w72 → rd (World.cell? w72 { block := n15, off := (3 : Nat) : Addr }) fun v74 => v74 = v71 ∧ w72 = w72) ∧ isK IntKind.i8 v71 fun i75 => (∀ (w76 : World), u57 w76 → Value.int IntKind.u64 (IntKind.wrap IntKind.u64 i75) = Value.int IntKind.u64 (IntKind.wrap IntKind.u64 i75) ∧ w76 = w76) ∧ (∀ (w78 : World), u57 w78 → Value.pointer (some { block := n15, off := (4 : Nat) : Addr }) = Value.pointer (some { block := n15, off := (4 : Nat) : Addr }) ∧ w78 = w78) ∧ rd (World.cell? (World.drew w48) { block := n15, off := (4 : Nat) : Addr }) fun v80 => (∀ (w81 : World), u57 w81 → rd (World.cell? w81 { block := n15, off := (4 : Nat) : Addr }) fun v83 => v83 = v80 ∧ w81 = w81) ∧ isK IntKind.i64 v80 fun i84 => (∀ (w85 : World), u57 w85 → Value.int IntKind.i64 (IntKind.wrap IntKind.i64 (i84 - (1 : Int))) = Value.int IntKind.i64 (IntKind.wrap IntKind.i64 (i84 - (1 : Int))) ∧ w85 = w85) ∧ (∀ (w87 : World), u57 w87 → Value.int IntKind.u64 (IntKind.wrap IntKind.u64 (IntKind.wrap IntKind.i64 (i84 - (1 : Int)))) = Value.int IntKind.u64 (IntKind.wrap IntKind.u64 (IntKind.wrap IntKind.i64 (i84 - (1 : Int)))) ∧ w87 = w87) ∧ callV Tryd.prog (77 : Nat) [Value.int IntKind.u64 (IntKind.wrap IntKind.u64 i66), Value.int IntKind.i64 (8 : Int)] (World.drew w48) fun v89 w90 => isStr v89 fun x91 => u57 w90 ∧ rd (orO (binV BinOp.add (Value.string x54) (Value.string x91)) none) fun v92 => (∀ (w93 : World), u57 w93 → rd (orO (binV BinOp.add (Value.string x54) (Value.string x91)) none) fun v95 => v95 = v92 ∧ w93 = w93) ∧ isStr v92 fun x96 => callV Tryd.prog (77 : Nat) [Value.int IntKind.u64 (IntKind.wrap IntKind.u64 i75), Value.int IntKind.i64 (8 : Int)] w90 fun v97 w98 => isStr v97 fun x99 => u57 w98 ∧ rd (orO (binV BinOp.add (Value.string x96) (Value.string x99)) none) fun v100 => (∀ (w101 : World), u57 w101 → rd (orO (binV BinOp.add (Value.string x96) (Value.string x99)) none) fun v103 => v103 = v100 ∧ w101 = w101) ∧ isStr v100 fun x104 => callV Tryd.prog (77 : Nat) [Value.int IntKind.u64 (IntKind.wrap IntKind.u64 (IntKind.wrap IntKind.i64 (i84 - (1 : Int)))), Value.int IntKind.i64 (3 : Int)] w98 fun v105 w106 => isStr v105 fun x107 => u57 w106 ∧ rd (orO (binV BinOp.add (Value.string x104) (Value.string x107)) none) fun v108 => (∀ (w109 : World), u57 w109 → rd (orO (binV BinOp.add (Value.string x104) (Value.string x107)) none) fun v111 => v111 = v108 ∧ w109 = w109) ∧ isStr v108 fun x112 => (∀ (w113 : World), u57 w113 → Value.string x112 = Value.string x112 ∧ w113 = w113) ∧ R (Value.string x112) w106) (br (decide (i13 = (3 : Int))) (heldC (World.drew w10) fun u115 => (∀ (w116 : World), u115 w116 → Value.string x6 = Value.string x6 ∧ w116 = w116) ∧ (∀ (w118 : World), u115 w118 → Value.string x11 = Value.string x11 ∧ w118 = w118) ∧ rd (orO (binV BinOp.add (Value.string x6) (Value.string x11)) none) fun v120 => (∀ (w121 : World), u115 w121 → rd (orO (binV BinOp.add (Value.string x6) (Value.string x11)) none) fun v123 => v123 = v120 ∧ w121 = w121) ∧ isStr v120 fun x124 => (∀ (w125 : World), u115 w125 → Value.pointer (some { block := n0, off := (9 : Nat) : Addr }) = Value.pointer (some { block := n0, off := (9 : Nat) : Addr }) ∧ w125 = w125) ∧ rd (World.cell? (World.drew w10) { block := n0, off := (9 : Nat) : Addr }) fun v127 => (∀ (w128 : World), u115 w128 → rd (World.cell? w128 { block := n0, off := (9 : Nat) : Addr }) fun v130 => v130 = v127 ∧ w128 = w128) ∧ isK IntKind.i64 v127 fun i131 => (∀ (w132 : World), u115 w132 → Value.int IntKind.u64 (IntKind.wrap IntKind.u64 i131) = Value.int IntKind.u64 (IntKind.wrap IntKind.u64 i131) ∧ w132 = w132) ∧ (∀ (w134 : World), u115 w134 → Value.pointer (some { block := n0, off := (10 : Nat) : Addr }) = Value.pointer (some { block := n0, off := (10 : Nat) : Addr }) ∧ w134 = w134) ∧ rd (cellsAt (World.drew w10) { block := n0, off := (10 : Nat) : Addr } (3 : Nat)) fun l136 => (∀ (w137 : World), u115 w137 → rd (cellsAt w137 { block := n0, off := (10 : Nat) : Addr } (3 : Nat)) fun l139 => Value.agg (List.toArray l139) = Value.agg (List.toArray l136) ∧ w137 = w137) ∧ callV Tryd.prog (77 : Nat) [Value.int IntKind.u64 (IntKind.wrap IntKind.u64 i131), Value.int IntKind.i64 (1 : Int)] (World.drew w10) fun v140 w141 => isStr v140 fun x142 => u115 w141 ∧ rd (orO (binV BinOp.add (Value.string x124) (Value.string x142)) none) fun v143 => (∀ (w144 : World), u115 w144 → rd (orO (binV BinOp.add (Value.string x124) (Value.string x142)) none) fun v146 => v146 = v143 ∧ w144 = w144) ∧ isStr v143 fun x147 => callV Tryd.prog (91 : Nat) [Value.agg (List.toArray l136), Value.int IntKind.i64 (18 : Int)] w141 fun v148 w149 => isStr v148 fun x150 => u115 w149 ∧ rd (orO (binV BinOp.add (Value.string x147) (Value.string x150)) none) fun v151 => (∀ (w152 : World), u115 w152 → rd (orO (binV BinOp.add (Value.string x147) (Value.string x150)) none) fun v154 => v154 = v151 ∧ w152 = w152) ∧ isStr v151 fun x155 => (∀ (w156 : World), u115 w156 → Value.string x155 = Value.string x155 ∧ w156 = w156) ∧ R (Value.string x155) w149) (br (decide (i13 = (5 : Int))) (rd (World.cell? w10 { block := n0, off := (8 : Nat) : Addr }) fun v158 => isK IntKind.i64 v158 fun i159 => callV Tryd.prog (77 : Nat) [Value.int IntKind.u64 (IntKind.wrap IntKind.u64 i159), Value.int IntKind.i64 (31 : Int)] w10 fun v160 w161 => isStr v160 fun x162 => rd (orO (binV BinOp.add (Value.string x6) (Value.string x162)) none) fun v163 => isStr v163 fun x164 => R (Value.string x164) w161) (br (decide (i13 = (6 : Int))) (heldC (World.drew w10) fun u165 => (∀ (w166 : World), u165 w166 → Value.string x6 = Value.string x6 ∧ w166 = w166) ∧ (∀ (w168 : World), u165 w168 → Value.pointer (some { block := n0, off := (1 : Nat) : Addr }) = Value.pointer (some { block := n0, off := (1 : Nat) : Addr }) ∧ w168 = w168) ∧ rd (World.cell? (World.drew w10) { block := n0, off := (1 : Nat) : Addr }) fun v170 => (∀ (w171 : World), u165 w171 → rd (World.cell? w171 { block := n0, off := (1 : Nat) : Addr }) fun v173 => v173 = v170 ∧ w171 = w171) ∧ isK IntKind.u16 v170 fun i174 => (∀ (w175 : World), u165 w175 → Value.int IntKind.u64 (IntKind.wrap IntKind.u64 i174) = Value.int IntKind.u64 (IntKind.wrap IntKind.u64 i174) ∧ w175 = w175) ∧ (∀ (w177 : World), u165 w177 → Value.pointer (some { block := n0, off := (14 : Nat) : Addr }) = Value.pointer (some { block := n0, off := (14 : Nat) : Addr }) ∧ w177 = w177) ∧ rd (cellsAt (World.drew w10) { block := n0, off := (14 : Nat) : Addr } (3 : Nat)) fun l179 => (∀ (w180 : World), u165 w180 → rd (cellsAt w180 { block := n0, off := (14 : Nat) : Addr } (3 : Nat)) fun l182 => Value.agg (List.toArray l182) = Value.agg (List.toArray l179) ∧ w180 = w180) ∧ (∀ (w183 : World), u165 w183 → Value.pointer (some { block := n0, off := (17 : Nat) : Addr }) = Value.pointer (some { block := n0, off := (17 : Nat) : Addr }) ∧ w183 = w183) ∧ rd (cellsAt (World.drew w10) { block := n0, off := (17 : Nat) : Addr } (3 : Nat)) fun l185 => (∀ (w186 : World), u165 w186 → rd (cellsAt w186 { block := n0, off := (17 : Nat) : Addr } (3 : Nat)) fun l188 => Value.agg (List.toArray l188) = Value.agg (List.toArray l185) ∧ w186 = w186) ∧ callV Tryd.prog (77 : Nat) [Value.int IntKind.u64 (IntKind.wrap IntKind.u64 i174), Value.int IntKind.i64 (16 : Int)] (World.drew w10) fun v189 w190 => isStr v189 fun x191 => u165 w190 ∧ rd (orO (binV BinOp.add (Value.string x6) (Value.string x191)) none) fun v192 => (∀ (w193 : World), u165 w193 → rd (orO (binV BinOp.add (Value.string x6) (Value.string x191)) none) fun v195 => v195 = v192 ∧ w193 = w193) ∧ isStr v192 fun x196 => callV Tryd.prog (91 : Nat) [Value.agg (List.toArray l179), Value.int IntKind.i64 (32 : Int)] w190 fun v197 w198 => isStr v197 fun x199 => u165 w198 ∧ rd (orO (binV BinOp.add (Value.string x196) (Value.string x199)) none) fun v200 => (∀ (w201 : World), u165 w201 → rd (orO (binV BinOp.add (Value.string x196) (Value.string x199)) none) fun v203 => v203 = v200 ∧ w201 = w201) ∧ isStr v200 fun x204 => callV Tryd.prog (91 : Nat) [Value.agg (List.toArray l185), Value.int IntKind.i64 (32 : Int)] w198 fun v205 w206 => isStr v205 fun x207 => u165 w206 ∧ rd (orO (binV BinOp.add (Value.string x204) (Value.string x207)) none) fun v208 => (∀ (w209 : World), u165 w209 → rd (orO (binV BinOp.add (Value.string x204) (Value.string x207)) none) fun v211 => v211 = v208 ∧ w209 = w209) ∧ isStr v208 fun x212 => (∀ (w213 : World), u165 w213 → Value.string x212 = Value.string x212 ∧ w213 = w213) ∧ R (Value.string x212) w206) (br (decide (i13 = (7 : Int))) (rd (orO (binV BinOp.add (Value.string x6) (Value.string x11)) none) fun v215 => isStr v215 fun x216 => rd (World.cell? w10 { block := n0, off := (8 : Nat) : Addr }) fun v217 => isK IntKind.i64 v217 fun i218 => callV Tryd.prog (77 : Nat) [Value.int IntKind.u64 (IntKind.wrap IntKind.u64 i218), Value.int IntKind.i64 (31 : Int)] w10 fun v219 w220 => isStr v219 fun x221 => rd (orO (binV BinOp.add (Value.string x216) (Value.string x221)) none) fun v222 => isStr v222 fun x223 => R (Value.string x223) w220) (br (decide (i13 = (8 : Int))) (rd (orO (binV BinOp.add (Value.string x6) (Value.string x11)) none) fun v224 => isStr v224 fun x225 => rd (World.cell? w10 { block := n0, off := (13 : Nat) : Addr }) fun v226 => isK IntKind.i64 v226 fun i227 => callV Tryd.prog (77 : Nat) [Value.int IntKind.u64 (IntKind.wrap IntKind.u64 i227), Value.int IntKind.i64 (4 : Int)] w10 fun v228 w229 => isStr v228 fun x230 => rd (orO (binV BinOp.add (Value.string x225) (Value.string x230)) none) fun v231 => isStr v231 fun x232 => R (Value.string x232) w229) (br (decide (i13 = (9 : Int))) (heldC (World.drew w10) fun u233 => (∀ (w234 : World), u233 w234 → Value.string x6 = Value.string x6 ∧ w234 = w234) ∧ (∀ (w236 : World), u233 w236 → Value.pointer (some { block := n0, off := (20 : Nat) : Addr }) = Value.pointer (some { block := n0, off := (20 : Nat) : Addr }) ∧ w236 = w236) ∧ rd (World.cell? (World.drew w10) { block := n0, off := (20 : Nat) : Addr }) fun v238 => (∀ (w239 : World), u233 w239 → rd (World.cell? w239 { block := n0, off := (20 : Nat) : Addr }) fun v241 => v241 = v238 ∧ w239 = w239) ∧ isK IntKind.u32 v238 fun i242 => (∀ (w243 : World), u233 w243 → Value.int IntKind.u64 (IntKind.wrap IntKind.u64 i242) = Value.int IntKind.u64 (IntKind.wrap IntKind.u64 i242) ∧ w243 = w243) ∧ (∀ (w245 : World), u233 w245 → Value.pointer (some { block := n0, off := (21 : Nat) : Addr }) = Value.pointer (some { block := n0, off := (21 : Nat) : Addr }) ∧ w245 = w245) ∧ rd (World.cell? (World.drew w10) { block := n0, off := (21 : Nat) : Addr }) fun v247 => (∀ (w248 : World), u233 w248 → rd (World.cell? w248 { block := n0, off := (21 : Nat) : Addr }) fun v250 => v250 = v247 ∧ w248 = w248) ∧ isK IntKind.u32 v247 fun i251 => (∀ (w252 : World), u233 w252 → Value.int IntKind.u64 (IntKind.wrap IntKind.u64 i251) = Value.int IntKind.u64 (IntKind.wrap IntKind.u64 i251) ∧ w252 = w252) ∧ (∀ (w254 : World), u233 w254 → Value.pointer (some { block := n0, off := (22 : Nat) : Addr }) = Value.pointer (some { block := n0, off := (22 : Nat) : Addr }) ∧ w254 = w254) ∧ rd (World.cell? (World.drew w10) { block := n0, off := (22 : Nat) : Addr }) fun v256 => (∀ (w257 : World), u233 w257 → rd (World.cell? w257 { block := n0, off := (22 : Nat) : Addr }) fun v259 => v259 = v256 ∧ w257 = w257) ∧ isSl v256 fun o260 n261 n262 => (∀ (w263 : World), u233 w263 → Value.int IntKind.i64 (↑n261 : Int) = Value.int IntKind.i64 (↑n261 : Int) ∧ w263 = w263) ∧ (∀ (w265 : World), u233 w265 → Value.int IntKind.u64 (IntKind.wrap IntKind.u64 (↑n261 : Int)) = Value.int IntKind.u64 (IntKind.wrap IntKind.u64 (↑n261 : Int)) ∧ w265 = w265) ∧ callV Tryd.prog (77 : Nat) [Value.int IntKind.u64 (IntKind.wrap IntKind.u64 i242), Value.int IntKind.i64 (32 : Int)] (World.drew w10) fun v267 w268 => isStr v267 fun x269 => u233 w268 ∧ rd (orO (binV BinOp.add (Value.string x6) (Value.string x269)) none) fun v270 => (∀ (w271 : World), u233 w271 → rd (orO (binV BinOp.add (Value.string x6) (Value.string x269)) none) fun v273 => v273 = v270 ∧ w271 = w271) ∧ isStr v270 fun x274 => callV Tryd.prog (77 : Nat) [Value.int IntKind.u64 (IntKind.wrap IntKind.u64 i251), Value.int IntKind.i64 (32 : Int)] w268 fun v275 w276 => isStr v275 fun x277 => u233 w276 ∧ rd (orO (binV BinOp.add (Value.string x274) (Value.string x277)) none) fun v278 => (∀ (w279 : World), u233 w279 → rd (orO (binV BinOp.add (Value.string x274) (Value.string x277)) none) fun v281 => v281 = v278 ∧ w279 = w279) ∧ isStr v278 fun x282 => callV Tryd.prog (77 : Nat) [Value.int IntKind.u64 (IntKind.wrap IntKind.u64 (↑n261 : Int)), Value.int IntKind.i64 (10 : Int)] w276 fun v283 w284 => isStr v283 fun x285 => u233 w284 ∧ rd (orO (binV BinOp.add (Value.string x282) (Value.string x285)) none) fun v286 => (∀ (w287 : World), u233 w287 → rd (orO (binV BinOp.add (Value.string x282) (Value.string x285)) none) fun v289 => v289 = v286 ∧ w287 = w287) ∧ isStr v286 fun x290 => (∀ (w291 : World), u233 w291 → Value.string x290 = Value.string x290 ∧ w291 = w291) ∧ rd (World.cell? w284 { block := n0, off := (22 : Nat) : Addr }) fun v293 => isSl v293 fun o294 n295 n296 => runs Tryd.prog (convert (25 : Nat) (9 : Nat) (Value.slice o294 n295 n296)) w284 fun v297 w298 => isStr v297 fun x299 => callV Tryd.prog (56 : Nat) [Value.string x299] w298 fun v300 w301 => isStr v300 fun x302 => rd (orO (binV BinOp.add (Value.string x290) (Value.string x302)) none) fun v303 => isStr v303 fun x304 => R (Value.string x304) w301) (R (Value.string x6) w10)))))))) :
  callV Tryd.prog 78 [Value.agg #[Value.int IntKind.i64 a0, Value.int IntKind.u16 a1, Value.int IntKind.u16 a20, Value.int IntKind.u8 a21, Value.int IntKind.i8 a22, Value.int IntKind.i8 a23, Value.int IntKind.i64 a24, Value.int IntKind.u16 a3, Value.int IntKind.i64 a4, Value.int IntKind.i64 a5, Value.int IntKind.i64 a60, Value.int IntKind.i64 a61, Value.int IntKind.i64 a62, Value.int IntKind.i64 a7, Value.int IntKind.i64 a80, Value.int IntKind.i64 a81, Value.int IntKind.i64 a82, Value.int IntKind.i64 a90, Value.int IntKind.i64 a91, Value.int IntKind.i64 a92, Value.int IntKind.u32 a10, Value.int IntKind.u32 a11, Value.slice a12p a12n a12c]] w R :=
  vc_of hm ⟨fun _ => false, fun n => match n with | 6 => .take 0 (.take 1 (.take 2 (.take 3 (.take 6 (.take 7 (.take 8 (.one 4 (.take 5 (.one 9 (.take 10 (.take 11 (.done)))))))))))) | 7 => .take 0 (.take 1 (.take 2 (.take 3 (.take 6 (.take 7 (.take 8 (.take 11 (.take 12 (.take 13 (.take 14 (.one 4 (.take 5 (.one 9 (.take 10 (.one 15 (.take 16 (.take 17 (.done)))))))))))))))))) | 9 => .take 0 (.take 1 (.take 2 (.take 3 (.take 4 (.take 5 (.take 8 (.take 9 (.one 6 (.take 7 (.one 10 (.take 11 (.take 12 (.done))))))))))))) | 13 => .take 0 (.take 1 (.take 2 (.take 3 (.take 6 (.take 7 (.take 10 (.take 11 (.one 4 (.take 5 (.one 8 (.take 9 (.one 12 (.take 13 (.take 14 (.done))))))))))))))) | 19 => .take 0 (.take 1 (.take 2 (.take 3 (.take 6 (.take 7 (.take 8 (.take 11 (.take 12 (.take 13 (.take 14 (.one 4 (.take 5 (.one 9 (.take 10 (.one 15 (.take 16 (.take 17 (.done)))))))))))))))))) | _ => .done, fun _ => []⟩ Tryd.func78 ent78 (by kernel_rfl) h

end Go.Proofs.YtipikchkbmgloaaDoor
namespace Go.Proofs.YtipikchkbmgloaaDoor
set_option linter.unusedSimpArgs false
set_option linter.unusedVariables false
open Go Go.RowKit VC
variable {w : World}
theorem far29_c {a0 a1 a2 b c : Int} : callV Tryd.prog 76 [.agg #[.int .i64 a0, .int .i64 a1, .int .i64 a2], .int .i64 b, .int .i64 c] w fun v w' => v = .bool (decide ((b ≤ a0 ∧ a0 ≤ c) ∧ (b ≤ a1 ∧ a1 ≤ c) ∧ (b ≤ a2 ∧ a2 ≤ c))) ∧ Fm none' w w' := by
  refine vc76 a0 a1 a2 b c w _ ?_
  refine allocC_of fun w1 hb1 hs1 hf1 => ?_
  refine rd_of (v := .int .i64 a0) (cellOf hb1 rfl) ?_
  simp only [vcs, eqV, nilV, Option.map_some, Nat.mul_one, implies_true, true_and, and_true, and_self]
  refine rd_of (v := .int .i64 a1) (cellOf hb1 rfl) ?_
  simp only [vcs, eqV, nilV, Option.map_some, Nat.mul_one, implies_true, true_and, and_true, and_self]
  refine rd_of (v := .int .i64 a2) (cellOf hb1 rfl) ?_
  simp only [vcs, eqV, nilV, Option.map_some, Nat.mul_one, implies_true, true_and, and_true, and_self]
  refine min3 ?_
  simp only [vcs, eqV, nilV, Option.map_some, Nat.mul_one, implies_true, true_and, and_true, and_self]
  refine br_dec (fun h => ?_) (fun h => ⟨?_, hf1⟩)
  · refine rd_of (v := .int .i64 a0) (cellOf hb1 rfl) ?_
    simp only [vcs, eqV, nilV, Option.map_some, Nat.mul_one, implies_true, true_and, and_true, and_self]
    refine rd_of (v := .int .i64 a1) (cellOf hb1 rfl) ?_
    simp only [vcs, eqV, nilV, Option.map_some, Nat.mul_one, implies_true, true_and, and_true, and_self]
    refine rd_of (v := .int .i64 a2) (cellOf hb1 rfl) ?_
    simp only [vcs, eqV, nilV, Option.map_some, Nat.mul_one, implies_true, true_and, and_true, and_self]
    refine max3 ?_
    simp only [vcs, eqV, nilV, Option.map_some, Nat.mul_one, implies_true, true_and, and_true, and_self]
    refine ⟨?_, hf1⟩
    congr 1
    rw [decide_eq_decide]
    omega
  · congr 1
    symm
    rw [decide_eq_false_iff_not]
    omega
theorem BytesAt.none : BytesAt w (none : Option Addr) [] := fun j y h => by simp at h
set_option maxRecDepth 20000 in
set_option maxHeartbeats 4000000 in
theorem only28_c {m : Msg} {q : Option Addr} {c : Nat} (hby : BytesAt w q m.bytes) :
    callV Tryd.prog 75 [.agg (msgC m q c).toArray] w fun v w' => ∃ q' c', v = .agg (msgC (only m) q' c').toArray ∧ BytesAt w' q' (only m).bytes ∧ Fm none' w w' := by
  unfold msgC
  apply vc75
  refine allocC_of fun w1 hb1 hs1 hf1 => ?_
  change w1.heap[w.heap.size]? = some (.cells (msgC m q c).toArray 53 (0, 0)) at hb1
  refine allocC_of fun w3 hb3 hs3 hf3 => ?_
  change w3.heap[w1.heap.size]? = some (.cells (msgC (blank 0) none 0).toArray 53 (0, 0)) at hb3
  have h1 := hf3.keep hb1 id
  refine rd_of (v := .int .i64 m.kind) (cellOf h1 rfl) ?_
  simp only [vcs, eqV, nilV, Option.map_some, Nat.mul_one, implies_true, true_and, and_true, and_self]
  refine allocC_of fun w7 hb7 hs7 hf7 => ?_
  refine stC_all hb7 rfl (by intro v hv; exact msgC_one (m := blank m.kind) (q := none) (cq := 0) v hv) fun w8 hb8 hf8 => ?_
  obtain ⟨A, hA⟩ : ∃ A, A = w.heap.size := ⟨_, rfl⟩
  obtain ⟨O, hO⟩ : ∃ O, O = w1.heap.size := ⟨_, rfl⟩
  obtain ⟨X, hX⟩ : ∃ X, X = w3.heap.size := ⟨_, rfl⟩
  change w8.heap[w3.heap.size]? = some (.cells (msgC (blank m.kind) none 0).toArray 53 (0, 0)) at hb8
  rw [← hA] at h1 ⊢
  rw [← hO] at hb3 ⊢
  rw [← hX] at hb8 hf8 ⊢
  have hA8 : w8.heap[A]? = some (.cells (msgC m q c).toArray 53 (0, 0)) := hf8.keep (hf7.keep h1 id) (by omega)
  have hO8 : w8.heap[O]? = some (.cells (msgC (blank 0) none 0).toArray 53 (0, 0)) := hf8.keep (hf7.keep hb3 id) (by omega)
  have hF8 : Fm none' w w8 := ((hf1.trans hf3).trans hf7).trans' hf8 (by rintro i hi rfl; omega)
  refine ⟨fun _ w' => ∃ q' c', w'.heap[X]? = some (.cells (msgC (only m) q' c').toArray 53 (0, 0)) ∧ BytesAt w' q' (only m).bytes ∧ (∀ ad, q' = some ad → (only m).bytes ≠ [] → ad.block < w.heap.size) ∧ Fm (fun i => i = X) w8 w', ?_, ?_⟩
  · have hby8 := hby.keep hF8 fun _ _ => id
    refine rd_of (v := .int .i64 m.kind) (cellOf hA8 rfl) ?_
    simp only [vcs, eqV, nilV, Option.map_some, Nat.mul_one, implies_true, true_and, and_true, and_self]
    have done : ∀ {w' : World} {x : Msg}, only m = x → x.bytes = [] → w'.heap[X]? = some (.cells (msgC x none 0).toArray 53 (0, 0)) → Fm (fun i => i = X) w8 w' → ∃ q' c', w'.heap[X]? = some (.cells (msgC (only m) q' c').toArray 53 (0, 0)) ∧ BytesAt w' q' (only m).bytes ∧ (∀ ad, q' = some ad → (only m).bytes ≠ [] → ad.block < w.heap.size) ∧ Fm (fun i => i = X) w8 w' := by
      rintro w' x rfl hb hx hf
      exact ⟨none, 0, hx, by rw [hb]; exact BytesAt.none, fun ad e => (by cases e), hf⟩
    refine br_dec (fun k2 => ?_) (fun k2 => ?_)
    · refine rd_of (v := ([.int .u16 m.cq, .int .u8 m.cb, .int .i8 m.cdx, .int .i8 m.cdy, .int .i64 m.ct] : List Value)) (cells_row hA8 (by simp [msgC])) ?_
      refine rd_of (v := ()) rfl ?_
      refine stC_at hb8 (by simp [msgC]) (by intro v hv; simp at hv; rcases hv with rfl | rfl | rfl | rfl | rfl <;> rfl) fun w13 hb13 hf13 => ?_
      exact done (x := { blank m.kind with cq := m.cq, cb := m.cb, cdx := m.cdx, cdy := m.cdy, ct := m.ct }) (by unfold only; rw [if_pos k2]) rfl hb13 hf13
    refine br_dec (fun k3 => ?_) (fun k3 => ?_)
    · refine rd_of (v := .int .u16 m.prov) (cellOf hA8 rfl) ?_
      simp only [vcs, eqV, nilV, Option.map_some, Nat.mul_one, implies_true, true_and, and_true, and_self]
      refine stC_one hb8 (by simp [msgC]) rfl fun w16 hb16 hf16 => ?_
      have hA16 := hf16.keep hA8 (by omega)
      refine rd_of (v := .int .i64 m.shot) (cellOf hA16 rfl) ?_
      simp only [vcs, eqV, nilV, Option.map_some, Nat.mul_one, implies_true, true_and, and_true, and_self]
      refine stC_one hb16 (by simp [msgC]) rfl fun w19 hb19 hf19 => ?_
      have hA19 := hf19.keep hA16 (by omega)
      refine rd_of (v := ([.int .i64 m.d0, .int .i64 m.d1, .int .i64 m.d2] : List Value)) (cells_row hA19 (by simp [msgC])) ?_
      refine rd_of (v := ()) rfl ?_
      refine stC_at hb19 (by simp [msgC]) (by intro v hv; simp at hv; rcases hv with rfl | rfl | rfl <;> rfl) fun w13 hb13 hf13 => ?_
      exact done (x := { blank m.kind with prov := m.prov, shot := m.shot, d0 := m.d0, d1 := m.d1, d2 := m.d2 }) (by unfold only; rw [if_neg k2, if_pos k3]) rfl hb13 ((hf16.trans hf19).trans hf13)
    refine br_dec (fun k5 => ?_) (fun k5 => ?_)
    · refine rd_of (v := .int .i64 m.id) (cellOf hA8 rfl) ?_
      simp only [vcs, eqV, nilV, Option.map_some, Nat.mul_one, implies_true, true_and, and_true, and_self]
      refine stC_one hb8 (by simp [msgC]) rfl fun w16 hb16 hf16 => ?_
      exact done (x := { blank m.kind with id := m.id }) (by unfold only; rw [if_neg k2, if_neg k3, if_neg (by omega), if_neg (by omega), if_pos k5]) rfl hb16 hf16
    refine br_dec (fun k6 => ?_) (fun k6 => ?_)
    · refine rd_of (v := .int .u16 m.seq) (cellOf hA8 rfl) ?_
      simp only [vcs, eqV, nilV, Option.map_some, Nat.mul_one, implies_true, true_and, and_true, and_self]
      refine stC_one hb8 (by simp [msgC]) rfl fun w16 hb16 hf16 => ?_
      have hA16 := hf16.keep hA8 (by omega)
      refine rd_of (v := ([.int .i64 m.p0, .int .i64 m.p1, .int .i64 m.p2] : List Value)) (cells_row hA16 (by simp [msgC])) ?_
      refine rd_of (v := ()) rfl ?_
      refine stC_at hb16 (by simp [msgC]) (by intro v hv; simp at hv; rcases hv with rfl | rfl | rfl <;> rfl) fun w19 hb19 hf19 => ?_
      have hA19 := hf19.keep hA16 (by omega)
      refine rd_of (v := ([.int .i64 m.v0, .int .i64 m.v1, .int .i64 m.v2] : List Value)) (cells_row hA19 (by simp [msgC])) ?_
      refine rd_of (v := ()) rfl ?_
      refine stC_at hb19 (by simp [msgC]) (by intro v hv; simp at hv; rcases hv with rfl | rfl | rfl <;> rfl) fun w13 hb13 hf13 => ?_
      exact done (x := { blank m.kind with seq := m.seq, p0 := m.p0, p1 := m.p1, p2 := m.p2, v0 := m.v0, v1 := m.v1, v2 := m.v2 }) (by unfold only; rw [if_neg k2, if_neg k3, if_pos k6]) rfl hb13 ((hf16.trans hf19).trans hf13)
    refine br_dec (fun k7 => ?_) (fun k7 => ?_)
    · refine rd_of (v := .int .u16 m.prov) (cellOf hA8 rfl) ?_
      simp only [vcs, eqV, nilV, Option.map_some, Nat.mul_one, implies_true, true_and, and_true, and_self]
      refine stC_one hb8 (by simp [msgC]) rfl fun w16 hb16 hf16 => ?_
      have hA16 := hf16.keep hA8 (by omega)
      refine rd_of (v := .int .i64 m.id) (cellOf hA16 rfl) ?_
      simp only [vcs, eqV, nilV, Option.map_some, Nat.mul_one, implies_true, true_and, and_true, and_self]
      refine stC_one hb16 (by simp [msgC]) rfl fun w19 hb19 hf19 => ?_
      exact done (x := { blank m.kind with prov := m.prov, id := m.id }) (by unfold only; rw [if_neg k2, if_neg k3, if_neg k6, if_pos k7]) rfl hb19 (hf16.trans hf19)
    refine br_dec (fun k8 => ?_) (fun k8 => ?_)
    · refine rd_of (v := .int .u16 m.prov) (cellOf hA8 rfl) ?_
      simp only [vcs, eqV, nilV, Option.map_some, Nat.mul_one, implies_true, true_and, and_true, and_self]
      refine stC_one hb8 (by simp [msgC]) rfl fun w16 hb16 hf16 => ?_
      have hA16 := hf16.keep hA8 (by omega)
      refine rd_of (v := .int .i64 m.why) (cellOf hA16 rfl) ?_
      simp only [vcs, eqV, nilV, Option.map_some, Nat.mul_one, implies_true, true_and, and_true, and_self]
      refine stC_one hb16 (by simp [msgC]) rfl fun w19 hb19 hf19 => ?_
      exact done (x := { blank m.kind with prov := m.prov, why := m.why }) (by unfold only; rw [if_neg k2, if_neg k3, if_neg k6, if_neg k7, if_neg k5, if_pos k8]) rfl hb19 (hf16.trans hf19)
    refine br_dec (fun k9 => ?_) (fun k9 => ?_)
    · refine rd_of (v := .int .u32 m.tick) (cellOf hA8 rfl) ?_
      simp only [vcs, eqV, nilV, Option.map_some, Nat.mul_one, implies_true, true_and, and_true, and_self]
      refine stC_one hb8 (by simp [msgC]) rfl fun w16 hb16 hf16 => ?_
      have hA16 := hf16.keep hA8 (by omega)
      refine rd_of (v := .int .u32 m.bse) (cellOf hA16 rfl) ?_
      simp only [vcs, eqV, nilV, Option.map_some, Nat.mul_one, implies_true, true_and, and_true, and_self]
      refine stC_one hb16 (by simp [msgC]) rfl fun w19 hb19 hf19 => ?_
      have hA19 := hf19.keep hA16 (by omega)
      refine rd_of (v := .slice q m.bytes.length c) (cellOf hA19 rfl) ?_
      simp only [vcs, eqV, nilV, Option.map_some, Nat.mul_one, implies_true, true_and, and_true, and_self]
      refine stC_one hb19 (by simp [msgC]) rfl fun w22 hb22 hf22 => ?_
      have e : only m = { blank m.kind with tick := m.tick, bse := m.bse, bytes := m.bytes } := by unfold only; rw [if_neg k2, if_neg k3, if_neg k6, if_neg k7, if_neg k5, if_neg k8, if_pos k9]
      rw [e]
      have hf := (hf16.trans hf19).trans hf22
      exact ⟨q, c, hb22, hby8.keepN hf fun ad e hne => by have := hby.lt ad e hne; omega, hby.lt, hf⟩
    · exact done (x := blank m.kind) (by unfold only; rw [if_neg k2, if_neg k3, if_neg k6, if_neg k7, if_neg k5, if_neg k8, if_neg k9]) rfl hb8 (Fm.refl _ _)
  · rintro - w57 ⟨q', c', hx57, hby57, hlt57, hf57⟩
    refine rd_of (v := msgC (only m) q' c') (cells_all hx57 rfl) ?_
    refine rd_of (v := ()) rfl ?_
    have hO57 := hf57.keep hO8 (by omega)
    refine stC_all hO57 rfl msgC_one fun w60 hb60 hf60 => ?_
    refine rd_of (v := msgC (only m) q' c') (cells_all hb60 rfl) ?_
    refine ⟨q', c', rfl, hby57.keepN hf60 fun ad e hne => (by have := hlt57 ad e hne; omega), (hF8.trans' hf57 (by rintro i hi rfl; omega)).trans' hf60 (by rintro i hi rfl; omega)⟩
instance (m : Msg) : Decidable (fits m) := by unfold fits; infer_instance
theorem ref_iff {m : Msg} (hm : Mok m) (hl : m.bytes.length < 9223372036854775807) (ho : m = only m) (h1 : 1 ≤ m.kind) (h9 : m.kind ≤ 9) : rightM m = decide (fits m) := by
  rw [Bool.eq_iff_iff, right_iff hm hl, decide_eq_true_eq]
  exact ⟨fun h => h.2.1, fun h => ⟨⟨h1, h9⟩, h, ho⟩⟩
theorem only_bytes (m : Msg) : ∀ y ∈ (only m).bytes, y ∈ m.bytes := by
  unfold only
  repeat' split
  all_goals first | (intro y hy; exact hy) | (intro y hy; cases hy)
set_option maxRecDepth 20000 in
set_option maxHeartbeats 4000000 in
theorem right17_c {m : Msg} {q : Option Addr} {c : Nat} (hm : Mok m) (hl : m.bytes.length < 9223372036854775807) (hby : BytesAt w q m.bytes) :
    callV Tryd.prog 50 [.agg (msgC m q c).toArray] w fun v w' => v = .bool (rightM m) ∧ Fm none' w w' := by
  unfold msgC
  apply vc50
  refine allocC_of fun w1 hb1 hs1 hf1 => ?_
  change w1.heap[w.heap.size]? = some (.cells (msgC m q c).toArray 53 (0, 0)) at hb1
  obtain ⟨A, hA⟩ : ∃ A, A = w.heap.size := ⟨_, rfl⟩
  rw [← hA] at hb1 ⊢
  refine ⟨fun u w' => u 3 = .bool (decide (m = only m)) ∧ Fm none' w1 w', ?_, ?_⟩
  · have hb1' : w1.drew.heap[A]? = some (.cells (msgC m q c).toArray 53 (0, 0)) := hb1
    refine ⟨fun w' => w'.heap[A]? = some (.cells (msgC m q c).toArray 53 (0, 0)), hb1', ?_⟩
    refine rd_of (v := msgC m q c) (cells_all hb1' rfl) ⟨fun w' hw => rd_of (cells_all hw rfl) ⟨rfl, rfl⟩, ?_⟩
    refine rd_of (v := msgC m q c) (cells_all hb1' rfl) ⟨fun w' hw => rd_of (cells_all hw rfl) ⟨rfl, rfl⟩, ?_⟩
    have hby1 := hby.keep (hf1.trans (Fm.drew w1)) fun _ _ => id
    refine (only28_c hby1).mono ?_
    rintro _ w13 ⟨q', c', rfl, hby13, hf13⟩
    refine ⟨hf13.keep hb1' id, ?_⟩
    refine (same27_c (hby1.keep hf13 fun _ _ => id) hby13 hm.bytes fun y hy => hm.bytes y (only_bytes m y hy)).mono ?_
    rintro _ w15 ⟨rfl, hf15⟩
    simp only [vcs, eqV, nilV, Option.map_some, Nat.mul_one, implies_true, true_and, and_true, and_self]
    exact ⟨hf15.keep (hf13.keep hb1' id) id, rfl, ((Fm.drew w1).trans hf13).trans hf15⟩
  rintro u w21 ⟨h3, hf21⟩
  change u 3 = _ at h3
  have h21 := hf21.keep hb1 id
  have hF21 := hf1.trans hf21
  have no : rightM m = false → Value.bool false = Value.bool (rightM m) ∧ Fm none' w w21 := fun h => ⟨by rw [h], hF21⟩
  simp only [h3, vcs, eqV, nilV, Option.map_some, Nat.mul_one, implies_true, true_and, and_true, and_self]
  refine ⟨fun _ w' => (m = only m ∧ 1 ≤ m.kind ∧ m.kind ≤ 9) ∧ w' = w21, ?_, ?_⟩
  · refine br_ndec (fun h => no ?_) (fun ho => ?_)
    · cases hr : rightM m with
      | false => rfl
      | true => exact absurd ((right_iff hm hl).1 hr).2.2 h
    refine rd_of (v := .int .i64 m.kind) (cellOf h21 rfl) ?_
    simp only [vcs, eqV, nilV, Option.map_some, Nat.mul_one, implies_true, true_and, and_true, and_self]
    refine br_dec (fun h => no ?_) (fun h1 => ?_)
    · cases hr : rightM m with
      | false => rfl
      | true => have := ((right_iff hm hl).1 hr).1; omega
    refine rd_of (v := .int .i64 m.kind) (cellOf h21 rfl) ?_
    simp only [vcs, eqV, nilV, Option.map_some, Nat.mul_one, implies_true, true_and, and_true, and_self]
    refine br_dec (fun h => no ?_) (fun h9 => ⟨ho, by omega, by omega⟩)
    cases hr : rightM m with
    | false => rfl
    | true => have := ((right_iff hm hl).1 hr).1; omega
  rintro - w31 ⟨⟨ho, h1, h9⟩, e⟩
  obtain rfl : w21 = w31 := e.symm
  have hR := ref_iff hm hl ho h1 h9
  have fin : ∀ {t : Bool} {w' : World}, t = decide (fits m) → Fm none' w21 w' → Value.bool t = Value.bool (rightM m) ∧ Fm none' w w' := fun h hf => ⟨by rw [hR, h], hF21.trans hf⟩
  have r := Fm.refl none' w21
  refine rd_of (v := .int .i64 m.kind) (cellOf h21 rfl) ?_
  simp only [vcs, eqV, nilV, Option.map_some, Nat.mul_one, implies_true, true_and, and_true, and_self]
  have ff : ∀ {P : Prop}, (fits m ↔ P) → ¬ P → false = decide (fits m) := fun h hp => (decide_eq_false (fun hf => hp (h.1 hf))).symm
  have tt : ∀ {P Q : Prop} [Decidable Q], (fits m ↔ P) → (Q ↔ P) → decide Q = decide (fits m) := fun h hq => decide_eq_decide.2 (hq.trans h.symm)
  refine br_dec (fun k2 => ?_) (fun k2 => ?_)
  · have hf : fits m ↔ m.cb < 4 ∧ 1 ≤ m.ct ∧ m.ct ≤ 8 := by unfold fits; rw [if_pos k2]
    refine rd_of (v := .int .u8 m.cb) (cellOf h21 rfl) ?_
    simp only [vcs, eqV, nilV, Option.map_some, Nat.mul_one, implies_true, true_and, and_true, and_self]
    refine br_dec (fun a1 => ?_) (fun a1 => fin (ff hf (by omega)) r)
    refine rd_of (v := .int .i64 m.ct) (cellOf h21 rfl) ?_
    simp only [vcs, eqV, nilV, Option.map_some, Nat.mul_one, implies_true, true_and, and_true, and_self]
    refine br_dec (fun a2 => ?_) (fun a2 => fin (ff hf (by omega)) r)
    refine rd_of (v := .int .i64 m.ct) (cellOf h21 rfl) ?_
    simp only [vcs, eqV, nilV, Option.map_some, Nat.mul_one, implies_true, true_and, and_true, and_self]
    exact fin (tt hf (by omega)) r
  refine br_dec (fun k3 => ?_) (fun k3 => ?_)
  · have hf : fits m ↔ (0 ≤ m.shot ∧ m.shot ≤ 1) ∧ (-65536 ≤ m.d0 ∧ m.d0 ≤ 65536) ∧ (-65536 ≤ m.d1 ∧ m.d1 ≤ 65536) ∧ (-65536 ≤ m.d2 ∧ m.d2 ≤ 65536) := by unfold fits; rw [if_neg k2, if_pos k3]
    refine rd_of (v := .int .i64 m.shot) (cellOf h21 rfl) ?_
    simp only [vcs, eqV, nilV, Option.map_some, Nat.mul_one, implies_true, true_and, and_true, and_self]
    refine br_dec (fun a1 => ?_) (fun a1 => ?_)
    · refine rd_of (v := ([.int .i64 m.d0, .int .i64 m.d1, .int .i64 m.d2] : List Value)) (cells_row h21 (by simp [msgC])) ?_
      refine far29_c.mono ?_
      rintro _ w45 ⟨rfl, hf45⟩
      simp only [vcs, eqV, nilV, Option.map_some, Nat.mul_one, implies_true, true_and, and_true, and_self]
      exact fin (tt hf (by omega)) hf45
    · refine rd_of (v := .int .i64 m.shot) (cellOf h21 rfl) ?_
      simp only [vcs, eqV, nilV, Option.map_some, Nat.mul_one, implies_true, true_and, and_true, and_self]
      refine br_dec (fun a2 => ?_) (fun a2 => fin (ff hf (by omega)) r)
      refine rd_of (v := ([.int .i64 m.d0, .int .i64 m.d1, .int .i64 m.d2] : List Value)) (cells_row h21 (by simp [msgC])) ?_
      refine far29_c.mono ?_
      rintro _ w45 ⟨rfl, hf45⟩
      simp only [vcs, eqV, nilV, Option.map_some, Nat.mul_one, implies_true, true_and, and_true, and_self]
      exact fin (tt hf (by omega)) hf45
  refine br_dec (fun k5 => ?_) (fun k5 => ?_)
  · have hf : fits m ↔ 1 ≤ m.id ∧ m.id < 2147483648 := by unfold fits; rw [if_neg k2, if_neg k3, if_neg (by omega), if_neg (by omega), if_pos k5]
    refine rd_of (v := .int .i64 m.id) (cellOf h21 rfl) ?_
    simp only [vcs, eqV, nilV, Option.map_some, Nat.mul_one, implies_true, true_and, and_true, and_self]
    refine br_dec (fun a1 => ?_) (fun a1 => fin (ff hf (by omega)) r)
    refine rd_of (v := .int .i64 m.id) (cellOf h21 rfl) ?_
    simp only [vcs, eqV, nilV, Option.map_some, Nat.mul_one, implies_true, true_and, and_true, and_self]
    exact fin (tt hf (by omega)) r
  refine br_dec (fun k7 => ?_) (fun k7 => ?_)
  · have hf : fits m ↔ 1 ≤ m.id ∧ m.id < 2147483648 := by unfold fits; rw [if_neg k2, if_neg k3, if_neg (by omega), if_pos k7]
    refine rd_of (v := .int .i64 m.id) (cellOf h21 rfl) ?_
    simp only [vcs, eqV, nilV, Option.map_some, Nat.mul_one, implies_true, true_and, and_true, and_self]
    refine br_dec (fun a1 => ?_) (fun a1 => fin (ff hf (by omega)) r)
    refine rd_of (v := .int .i64 m.id) (cellOf h21 rfl) ?_
    simp only [vcs, eqV, nilV, Option.map_some, Nat.mul_one, implies_true, true_and, and_true, and_self]
    exact fin (tt hf (by omega)) r
  refine br_dec (fun k6 => ?_) (fun k6 => ?_)
  · have hf : fits m ↔ ((-2147483648 ≤ m.p0 ∧ m.p0 < 2147483648) ∧ (-2147483648 ≤ m.p1 ∧ m.p1 < 2147483648) ∧ (-2147483648 ≤ m.p2 ∧ m.p2 < 2147483648)) ∧
        ((-2147483648 ≤ m.v0 ∧ m.v0 < 2147483648) ∧ (-2147483648 ≤ m.v1 ∧ m.v1 < 2147483648) ∧ (-2147483648 ≤ m.v2 ∧ m.v2 < 2147483648)) := by unfold fits; rw [if_neg k2, if_neg k3, if_pos k6]
    refine rd_of (v := ([.int .i64 m.p0, .int .i64 m.p1, .int .i64 m.p2] : List Value)) (cells_row h21 (by simp [msgC])) ?_
    refine far29_c.mono ?_
    rintro _ w45 ⟨rfl, hf45⟩
    simp only [vcs, eqV, nilV, Option.map_some, Nat.mul_one, implies_true, true_and, and_true, and_self]
    refine br_dec (fun a1 => ?_) (fun a1 => fin (ff hf (by omega)) hf45)
    refine rd_of (v := ([.int .i64 m.v0, .int .i64 m.v1, .int .i64 m.v2] : List Value)) (cells_row (hf45.keep h21 id) (by simp [msgC])) ?_
    refine far29_c.mono ?_
    rintro _ w46 ⟨rfl, hf46⟩
    simp only [vcs, eqV, nilV, Option.map_some, Nat.mul_one, implies_true, true_and, and_true, and_self]
    exact fin (tt hf (by omega)) (hf45.trans hf46)
  refine br_dec (fun k8 => ?_) (fun k8 => ?_)
  · have hf : fits m ↔ 1 ≤ m.why ∧ m.why ≤ 10 := by unfold fits; rw [if_neg k2, if_neg k3, if_neg k6, if_neg k7, if_neg k5, if_pos k8]
    refine rd_of (v := .int .i64 m.why) (cellOf h21 rfl) ?_
    simp only [vcs, eqV, nilV, Option.map_some, Nat.mul_one, implies_true, true_and, and_true, and_self]
    refine br_dec (fun a1 => ?_) (fun a1 => fin (ff hf (by omega)) r)
    refine rd_of (v := .int .i64 m.why) (cellOf h21 rfl) ?_
    simp only [vcs, eqV, nilV, Option.map_some, Nat.mul_one, implies_true, true_and, and_true, and_self]
    exact fin (tt hf (by omega)) r
  refine br_dec (fun k9 => ?_) (fun k9 => ?_)
  · have hf : fits m ↔ m.bytes.length ≤ 1023 := by unfold fits; rw [if_neg k2, if_neg k3, if_neg k6, if_neg k7, if_neg k5, if_neg k8, if_pos k9]
    refine rd_of (v := .slice q m.bytes.length c) (cellOf h21 rfl) ?_
    simp only [vcs, eqV, nilV, Option.map_some, Nat.mul_one, implies_true, true_and, and_true, and_self]
    exact fin (tt hf (by omega)) r
  · have hf : fits m := by unfold fits; rw [if_neg k2, if_neg k3, if_neg k6, if_neg k7, if_neg k5, if_neg k8, if_neg k9]; trivial
    exact fin (decide_eq_true hf).symm r
end Go.Proofs.YtipikchkbmgloaaDoor
namespace Go.Proofs.YtipikchkbmgloaaDoor
set_option linter.unusedSimpArgs false
set_option linter.unusedVariables false
open Go Go.RowKit VC
variable {w : World}
theorem textX (x : Int) (k : Nat) (hk : k ≤ 64) : callV Tryd.prog 77 [.int .u64 (IntKind.u64.wrap x), .int .i64 k] w fun v w' => v = .string (txt (bitsOf (IntKind.u64.wrap x) k)) ∧ Fm none' w w' := by
  obtain ⟨m, hm, hlt⟩ := u64_nat x
  rw [hm]
  exact text47_c m k hlt hk
theorem cat3 {S : World → Prop} {K : ByteArray → Prop} {xs ys : List Int} (h : xs.length + ys.length ≤ 1000000000) (k : K (txt (xs ++ ys))) :
    rd (orO (binV .add (.string (txt xs)) (.string (txt ys))) none) fun v => (∀ w' : World, S w' → rd (orO (binV .add (.string (txt xs)) (.string (txt ys))) none) fun v' => v' = v) ∧ isStr v K :=
  cat_txt h ⟨fun _ _ => cat_txt h rfl, k⟩
theorem cat1 {K : ByteArray → Prop} {xs ys : List Int} (h : xs.length + ys.length ≤ 1000000000) (k : K (txt (xs ++ ys))) :
    rd (orO (binV .add (.string (txt xs)) (.string (txt ys))) none) fun v => isStr v K := cat_txt h k
set_option maxRecDepth 20000 in
theorem vec62_c {a0 a1 a2 : Int} {k : Nat} (hk : k ≤ 64) : callV Tryd.prog 91 [.agg #[.int .i64 a0, .int .i64 a1, .int .i64 a2], .int .i64 k] w fun v w' => v = .string (txt (vecB [a0, a1, a2] k)) ∧ Fm none' w w' := by
  refine vc91 a0 a1 a2 k w _ ?_
  refine allocC_of fun w1 hb1 hs1 hf1 => ?_
  have hb : w1.drew.heap[w.heap.size]? = some (.cells #[.int .i64 a0, .int .i64 a1, .int .i64 a2] 51 (0, 0)) := hb1
  refine ⟨fun w' => w'.heap[w.heap.size]? = some (.cells #[.int .i64 a0, .int .i64 a1, .int .i64 a2] 51 (0, 0)), hb, ?_⟩
  simp only [vcs, eqV, nilV, Option.map_some, Nat.mul_one, implies_true, true_and, and_true, and_self]
  refine rd_of (v := .int .i64 a0) (cellOf hb rfl) ⟨fun w' hw => rd_of (cellOf hw rfl) rfl, ?_⟩
  simp only [vcs, eqV, nilV, Option.map_some, Nat.mul_one, implies_true, true_and, and_true, and_self]
  refine rd_of (v := .int .i64 a1) (cellOf hb rfl) ⟨fun w' hw => rd_of (cellOf hw rfl) rfl, ?_⟩
  simp only [vcs, eqV, nilV, Option.map_some, Nat.mul_one, implies_true, true_and, and_true, and_self]
  refine rd_of (v := .int .i64 a2) (cellOf hb rfl) ⟨fun w' hw => rd_of (cellOf hw rfl) rfl, ?_⟩
  simp only [vcs, eqV, nilV, Option.map_some, Nat.mul_one, implies_true, true_and, and_true, and_self]
  refine (textX a0 k hk).mono ?_
  rintro _ w37 ⟨rfl, hf37⟩
  simp only [vcs, eqV, nilV, Option.map_some, Nat.mul_one, implies_true, true_and, and_true, and_self]
  refine ⟨hf37.keep hb id, (textX a1 k hk).mono ?_⟩
  rintro _ w40 ⟨rfl, hf40⟩
  simp only [vcs, eqV, nilV, Option.map_some, Nat.mul_one, implies_true, true_and, and_true, and_self]
  refine ⟨hf40.keep (hf37.keep hb id) id, cat3 (by rw [bitsOf_length, bitsOf_length]; omega) ?_⟩
  refine (textX a2 k hk).mono ?_
  rintro _ w48 ⟨rfl, hf48⟩
  simp only [vcs, eqV, nilV, Option.map_some, Nat.mul_one, implies_true, true_and, and_true, and_self]
  refine ⟨hf48.keep (hf40.keep (hf37.keep hb id) id) id, cat3 (by rw [List.length_append, bitsOf_length, bitsOf_length, bitsOf_length]; omega) ?_⟩
  refine ⟨?_, (((hf1.trans (Fm.drew w1)).trans hf37).trans hf40).trans hf48⟩
  simp only [vecB, vecBits, List.flatMap_cons, List.flatMap_nil, List.append_nil, List.append_assoc]
set_option maxRecDepth 20000 in
theorem of33_c {ys : List Int} (hy : ∀ y ∈ ys, 0 ≤ y ∧ y < 256) (hl : ys.length ≤ 100000) : callV Tryd.prog 56 [.string (strOfNums ys)] w fun v w' => v = .string (txt (byteBits ys)) ∧ Fm none' w w' := by
  refine vc56 _ w _ ?_
  rw [strOfNums_size]
  refine ⟨fun u w' => ∃ j : Nat, j ≤ ys.length ∧ u 3 = .string (txt (byteBits (ys.take j))) ∧ u 4 = .int .i64 j ∧ Fm none' w w', fun u _ => ys.length - (intOf (u 4)).toNat, ⟨0, by omega, rfl, rfl, Fm.refl _ _⟩, ?_⟩
  rintro u w3 ⟨j, hj, h3, h4, hF⟩
  change u 3 = _ at h3
  change u 4 = _ at h4
  simp only [h3, h4, vcs, eqV, nilV, Option.map_some, Nat.mul_one, implies_true, true_and, and_true, and_self]
  refine br_dec (fun hjl => ?_) (fun hjl => ?_)
  · obtain ⟨y, hyj⟩ : ∃ y, ys[j]? = some y := ⟨ys[j]'(by omega), by simp⟩
    refine index_str (by rw [row9]) hy hyj ?_
    simp only [vcs, eqV, nilV, Option.map_some, Nat.mul_one, implies_true, true_and, and_true, and_self]
    refine (textX y 8 (by omega)).mono ?_
    rintro _ w12 ⟨rfl, hf12⟩
    simp only [vcs, eqV, nilV, Option.map_some, Nat.mul_one, implies_true, true_and, and_true, and_self]
    have hlt : (ys.take j).length ≤ ys.length := by rw [List.length_take]; omega
    refine cat1 (by rw [byteBits_length, bitsOf_length]; omega) ?_
    rw [w64 (by omega)]
    refine ⟨⟨j + 1, by omega, ?_, rfl, hF.trans hf12⟩, ?_⟩
    · show Value.string _ = _
      rw [List.take_add_one, hyj, byteBits_app]
      simp [byteBits]
    · show ys.length - ((j : Int) + 1).toNat < ys.length - (j : Int).toNat; omega
  · have : j = ys.length := by omega
    subst this
    rw [List.take_length]
    exact ⟨rfl, hF⟩
set_option maxRecDepth 20000 in
set_option maxHeartbeats 4000000 in
theorem bits48_c {m : Msg} {q : Option Addr} {c : Nat} (hm : Mok m) (hl : m.bytes.length ≤ 2000) (hby : BytesAt w q m.bytes) (h1 : 1 ≤ m.kind) (h9 : m.kind ≤ 9) :
    callV Tryd.prog 78 [.agg (msgC m q c).toArray] w fun v w' => v = .string (txt (oneBits m)) ∧ Fm none' w w' := by
  unfold msgC
  apply vc78
  refine allocC_of fun w1 hb1 hs1 hf1 => ?_
  change w1.heap[w.heap.size]? = some (.cells (msgC m q c).toArray 53 (0, 0)) at hb1
  obtain ⟨A, hA⟩ : ∃ A, A = w.heap.size := ⟨_, rfl⟩
  rw [← hA] at hb1 ⊢
  refine rd_of (v := .int .i64 m.kind) (cellOf hb1 rfl) ?_
  simp only [vcs, eqV, nilV, Option.map_some, Nat.mul_one, implies_true, true_and, and_true, and_self]
  refine (textX m.kind 4 (by omega)).mono ?_
  rintro _ w5 ⟨rfl, hf5⟩
  simp only [vcs, eqV, nilV, Option.map_some, Nat.mul_one, implies_true, true_and, and_true, and_self]
  have hb5 := hf5.keep hb1 id
  refine rd_of (v := .int .u16 m.prov) (cellOf hb5 rfl) ?_
  simp only [vcs, eqV, nilV, Option.map_some, Nat.mul_one, implies_true, true_and, and_true, and_self]
  refine (textX m.prov 16 (by omega)).mono ?_
  rintro _ w10 ⟨rfl, hf10⟩
  simp only [vcs, eqV, nilV, Option.map_some, Nat.mul_one, implies_true, true_and, and_true, and_self]
  have hb10 := hf10.keep hb5 id
  have hF10 := (hf1.trans hf5).trans hf10
  refine rd_of (v := .int .i64 m.kind) (cellOf hb10 rfl) ?_
  simp only [vcs, eqV, nilV, Option.map_some, Nat.mul_one, implies_true, true_and, and_true, and_self]
  have fin : ∀ {bs : List Int} {w' : World}, fieldBits m = bs → Fm none' w10 w' → ∀ {x : List Int}, x = bitsOf (IntKind.u64.wrap m.kind) 4 ++ bs → Value.string (txt x) = .string (txt (oneBits m)) ∧ Fm none' w w' := by
    rintro bs w' rfl hf x rfl
    exact ⟨rfl, hF10.trans hf⟩
  have hd := Fm.drew w10
  have hbd : w10.drew.heap[A]? = some (.cells (msgC m q c).toArray 53 (0, 0)) := hb10
  have ln : ∀ x k, (bitsOf x k).length = k := bitsOf_length
  have lv : ∀ x y z k, (vecB [x, y, z] k).length = 3 * k := fun x y z k => by
    simp only [vecB, vecBits, List.flatMap_cons, List.flatMap_nil, List.length_append, bitsOf_length, List.length_nil]; omega
  refine br_dec (fun k2 => ?_) (fun k2 => ?_)
  · refine rd_of (v := ([.int .u16 m.cq, .int .u8 m.cb, .int .i8 m.cdx, .int .i8 m.cdy, .int .i64 m.ct] : List Value)) (cells_row hb10 (by simp [msgC])) ?_
    refine allocC_of fun w16 hb16 hs16 hf16 => ?_
    refine rd_of (v := ()) rfl ?_
    refine stC_all hb16 rfl (by intro v hv; simp at hv; rcases hv with rfl | rfl | rfl | rfl | rfl <;> rfl) fun w17 hb17 hf17 => ?_
    obtain ⟨C, hC⟩ : ∃ C, C = w10.heap.size := ⟨_, rfl⟩
    rw [← hC] at hb17 hf17 ⊢
    have hF17 : Fm none' w10 w17 := hf16.trans' hf17 (by rintro i hi rfl; omega)
    have hbd2 : w17.drew.heap[C]? = some (.cells #[.int .u16 m.cq, .int .u8 m.cb, .int .i8 m.cdx, .int .i8 m.cdy, .int .i64 m.ct] 49 (0, 0)) := hb17
    refine ⟨fun w' => w'.heap[C]? = some (.cells #[.int .u16 m.cq, .int .u8 m.cb, .int .i8 m.cdx, .int .i8 m.cdy, .int .i64 m.ct] 49 (0, 0)), hbd2, ?_⟩
    simp only [vcs, eqV, nilV, Option.map_some, Nat.mul_one, implies_true, true_and, and_true, and_self]
    refine rd_of (v := .int .u16 m.cq) (cellOf hbd2 rfl) ⟨fun w' hw => rd_of (cellOf hw rfl) rfl, ?_⟩
    simp only [vcs, eqV, nilV, Option.map_some, Nat.mul_one, implies_true, true_and, and_true, and_self]
    refine rd_of (v := .int .u8 m.cb) (cellOf hbd2 rfl) ⟨fun w' hw => rd_of (cellOf hw rfl) rfl, ?_⟩
    simp only [vcs, eqV, nilV, Option.map_some, Nat.mul_one, implies_true, true_and, and_true, and_self]
    refine (textX m.cq 16 (by omega)).mono ?_
    rintro _ w40 ⟨rfl, hf40⟩
    simp only [vcs, eqV, nilV, Option.map_some, Nat.mul_one, implies_true, true_and, and_true, and_self]
    refine ⟨hf40.keep hbd2 id, cat3 (by simp only [List.length_append, ln]; omega) ?_⟩
    refine (textX m.cb 2 (by omega)).mono ?_
    rintro _ w48 ⟨rfl, hf48⟩
    simp only [vcs, eqV, nilV, Option.map_some, Nat.mul_one, implies_true, true_and, and_true, and_self]
    have hb48 := hf48.keep (hf40.keep hbd2 id) id
    refine ⟨hb48, cat3 (by simp only [List.length_append, ln]; omega) ?_⟩
    have hb48' : w48.drew.heap[C]? = some (.cells #[.int .u16 m.cq, .int .u8 m.cb, .int .i8 m.cdx, .int .i8 m.cdy, .int .i64 m.ct] 49 (0, 0)) := hb48
    refine ⟨fun w' => w'.heap[C]? = some (.cells #[.int .u16 m.cq, .int .u8 m.cb, .int .i8 m.cdx, .int .i8 m.cdy, .int .i64 m.ct] 49 (0, 0)), hb48', ?_⟩
    simp only [vcs, eqV, nilV, Option.map_some, Nat.mul_one, implies_true, true_and, and_true, and_self]
    refine rd_of (v := .int .i8 m.cdx) (cellOf hb48' rfl) ⟨fun w' hw => rd_of (cellOf hw rfl) rfl, ?_⟩
    simp only [vcs, eqV, nilV, Option.map_some, Nat.mul_one, implies_true, true_and, and_true, and_self]
    refine rd_of (v := .int .i8 m.cdy) (cellOf hb48' rfl) ⟨fun w' hw => rd_of (cellOf hw rfl) rfl, ?_⟩
    simp only [vcs, eqV, nilV, Option.map_some, Nat.mul_one, implies_true, true_and, and_true, and_self]
    refine rd_of (v := .int .i64 m.ct) (cellOf hb48' rfl) ⟨fun w' hw => rd_of (cellOf hw rfl) rfl, ?_⟩
    simp only [vcs, eqV, nilV, Option.map_some, Nat.mul_one, implies_true, true_and, and_true, and_self]
    refine (textX m.cdx 8 (by omega)).mono ?_
    rintro _ w90 ⟨rfl, hf90⟩
    simp only [vcs, eqV, nilV, Option.map_some, Nat.mul_one, implies_true, true_and, and_true, and_self]
    have hb90 := hf90.keep hb48' id
    refine ⟨hb90, cat3 (by simp only [List.length_append, ln]; omega) ?_⟩
    refine (textX m.cdy 8 (by omega)).mono ?_
    rintro _ w98 ⟨rfl, hf98⟩
    simp only [vcs, eqV, nilV, Option.map_some, Nat.mul_one, implies_true, true_and, and_true, and_self]
    have hb98 := hf98.keep hb90 id
    refine ⟨hb98, cat3 (by simp only [List.length_append, ln]; omega) ?_⟩
    refine (textX (IntKind.i64.wrap (m.ct - 1)) 3 (by omega)).mono ?_
    rintro _ w106 ⟨rfl, hf106⟩
    simp only [vcs, eqV, nilV, Option.map_some, Nat.mul_one, implies_true, true_and, and_true, and_self]
    refine ⟨hf106.keep hb98 id, cat3 (by simp only [List.length_append, ln]; omega) ?_⟩
    exact fin (bs := cmdBits m.cq m.cb m.cdx m.cdy m.ct) (by unfold fieldBits; rw [if_pos k2]) (((((((hF17.trans (Fm.drew w17)).trans hf40).trans hf48).trans (Fm.drew w48)).trans hf90).trans hf98).trans hf106) (by simp only [cmdBits, numBits, sgnBits, List.append_assoc])
  refine br_dec (fun k3 => ?_) (fun k3 => ?_)
  · refine ⟨fun w' => w'.heap[A]? = some (.cells (msgC m q c).toArray 53 (0, 0)), hbd, ?_⟩
    simp only [vcs, eqV, nilV, Option.map_some, Nat.mul_one, implies_true, true_and, and_true, and_self]
    refine cat_txt (by rw [ln, ln]; omega) ⟨fun _ _ => cat_txt (by rw [ln, ln]; omega) rfl, ?_⟩
    simp only [vcs, eqV, nilV, Option.map_some, Nat.mul_one, implies_true, true_and, and_true, and_self]
    refine rd_of (v := .int .i64 m.shot) (cellOf hbd rfl) ⟨fun w' hw => rd_of (cellOf hw rfl) rfl, ?_⟩
    simp only [vcs, eqV, nilV, Option.map_some, Nat.mul_one, implies_true, true_and, and_true, and_self]
    refine rd_of (v := ([.int .i64 m.d0, .int .i64 m.d1, .int .i64 m.d2] : List Value)) (cells_row hbd (by simp [msgC])) ⟨fun w' hw => rd_of (cells_row hw (by simp [msgC])) rfl, ?_⟩
    refine (textX m.shot 1 (by omega)).mono ?_
    rintro _ w141 ⟨rfl, hf141⟩
    simp only [vcs, eqV, nilV, Option.map_some, Nat.mul_one, implies_true, true_and, and_true, and_self]
    refine ⟨hf141.keep hbd id, cat3 (by simp only [List.length_append, ln]; omega) ?_⟩
    refine (vec62_c (k := 18) (by omega)).mono ?_
    rintro _ w148 ⟨rfl, hf148⟩
    simp only [vcs, eqV, nilV, Option.map_some, Nat.mul_one, implies_true, true_and, and_true, and_self]
    refine ⟨hf148.keep (hf141.keep hbd id) id, cat3 (by simp only [List.length_append, ln, lv]; omega) ?_⟩
    exact fin (bs := numBits m.prov 16 ++ (numBits m.shot 1 ++ vecB [m.d0, m.d1, m.d2] 18)) (by unfold fieldBits; rw [if_neg k2, if_pos k3]) ((hd.trans hf141).trans hf148) (by simp only [numBits, List.append_assoc])
  refine br_dec (fun k5 => ?_) (fun k5 => ?_)
  · refine rd_of (v := .int .i64 m.id) (cellOf hb10 rfl) ?_
    simp only [vcs, eqV, nilV, Option.map_some, Nat.mul_one, implies_true, true_and, and_true, and_self]
    refine (textX m.id 31 (by omega)).mono ?_
    rintro _ w141 ⟨rfl, hf141⟩
    simp only [vcs, eqV, nilV, Option.map_some, Nat.mul_one, implies_true, true_and, and_true, and_self]
    refine cat1 (by rw [ln, ln]; omega) ?_
    exact fin (bs := numBits m.id 31) (by unfold fieldBits; rw [if_neg k2, if_neg k3, if_neg (by omega), if_neg (by omega), if_pos k5]) hf141 rfl
  refine br_dec (fun k6 => ?_) (fun k6 => ?_)
  · refine ⟨fun w' => w'.heap[A]? = some (.cells (msgC m q c).toArray 53 (0, 0)), hbd, ?_⟩
    simp only [vcs, eqV, nilV, Option.map_some, Nat.mul_one, implies_true, true_and, and_true, and_self]
    refine rd_of (v := .int .u16 m.seq) (cellOf hbd rfl) ⟨fun w' hw => rd_of (cellOf hw rfl) rfl, ?_⟩
    simp only [vcs, eqV, nilV, Option.map_some, Nat.mul_one, implies_true, true_and, and_true, and_self]
    refine rd_of (v := ([.int .i64 m.p0, .int .i64 m.p1, .int .i64 m.p2] : List Value)) (cells_row hbd (by simp [msgC])) ⟨fun w' hw => rd_of (cells_row hw (by simp [msgC])) rfl, ?_⟩
    refine rd_of (v := ([.int .i64 m.v0, .int .i64 m.v1, .int .i64 m.v2] : List Value)) (cells_row hbd (by simp [msgC])) ⟨fun w' hw => rd_of (cells_row hw (by simp [msgC])) rfl, ?_⟩
    refine (textX m.seq 16 (by omega)).mono ?_
    rintro _ w141 ⟨rfl, hf141⟩
    simp only [vcs, eqV, nilV, Option.map_some, Nat.mul_one, implies_true, true_and, and_true, and_self]
    refine ⟨hf141.keep hbd id, cat3 (by simp only [List.length_append, ln]; omega) ?_⟩
    refine (vec62_c (k := 32) (by omega)).mono ?_
    rintro _ w148 ⟨rfl, hf148⟩
    simp only [vcs, eqV, nilV, Option.map_some, Nat.mul_one, implies_true, true_and, and_true, and_self]
    refine ⟨hf148.keep (hf141.keep hbd id) id, cat3 (by simp only [List.length_append, ln, lv]; omega) ?_⟩
    refine (vec62_c (k := 32) (by omega)).mono ?_
    rintro _ w149 ⟨rfl, hf149⟩
    simp only [vcs, eqV, nilV, Option.map_some, Nat.mul_one, implies_true, true_and, and_true, and_self]
    refine ⟨hf149.keep (hf148.keep (hf141.keep hbd id) id) id, cat3 (by simp only [List.length_append, ln, lv]; omega) ?_⟩
    exact fin (bs := numBits m.seq 16 ++ (vecB [m.p0, m.p1, m.p2] 32 ++ vecB [m.v0, m.v1, m.v2] 32)) (by unfold fieldBits; rw [if_neg k2, if_neg k3, if_pos k6]) (((hd.trans hf141).trans hf148).trans hf149) (by simp only [numBits, List.append_assoc])
  refine br_dec (fun k7 => ?_) (fun k7 => ?_)
  · refine cat1 (by simp only [ln]; omega) ?_
    refine rd_of (v := .int .i64 m.id) (cellOf hb10 rfl) ?_
    simp only [vcs, eqV, nilV, Option.map_some, Nat.mul_one, implies_true, true_and, and_true, and_self]
    refine (textX m.id 31 (by omega)).mono ?_
    rintro _ w141 ⟨rfl, hf141⟩
    simp only [vcs, eqV, nilV, Option.map_some, Nat.mul_one, implies_true, true_and, and_true, and_self]
    refine cat1 (by simp only [List.length_append, ln]; omega) ?_
    exact fin (bs := numBits m.prov 16 ++ numBits m.id 31) (by unfold fieldBits; rw [if_neg k2, if_neg k3, if_neg k6, if_pos k7]) hf141 (by simp only [numBits, List.append_assoc])
  refine br_dec (fun k8 => ?_) (fun k8 => ?_)
  · refine cat1 (by simp only [ln]; omega) ?_
    refine rd_of (v := .int .i64 m.why) (cellOf hb10 rfl) ?_
    simp only [vcs, eqV, nilV, Option.map_some, Nat.mul_one, implies_true, true_and, and_true, and_self]
    refine (textX m.why 4 (by omega)).mono ?_
    rintro _ w141 ⟨rfl, hf141⟩
    simp only [vcs, eqV, nilV, Option.map_some, Nat.mul_one, implies_true, true_and, and_true, and_self]
    refine cat1 (by simp only [List.length_append, ln]; omega) ?_
    exact fin (bs := numBits m.prov 16 ++ numBits m.why 4) (by unfold fieldBits; rw [if_neg k2, if_neg k3, if_neg k6, if_neg k7, if_neg k5, if_pos k8]) hf141 (by simp only [numBits, List.append_assoc])
  refine br_dec (fun k9 => ?_) (fun k9 => ?_)
  · refine ⟨fun w' => w'.heap[A]? = some (.cells (msgC m q c).toArray 53 (0, 0)), hbd, ?_⟩
    simp only [vcs, eqV, nilV, Option.map_some, Nat.mul_one, implies_true, true_and, and_true, and_self]
    refine rd_of (v := .int .u32 m.tick) (cellOf hbd rfl) ⟨fun w' hw => rd_of (cellOf hw rfl) rfl, ?_⟩
    simp only [vcs, eqV, nilV, Option.map_some, Nat.mul_one, implies_true, true_and, and_true, and_self]
    refine rd_of (v := .int .u32 m.bse) (cellOf hbd rfl) ⟨fun w' hw => rd_of (cellOf hw rfl) rfl, ?_⟩
    simp only [vcs, eqV, nilV, Option.map_some, Nat.mul_one, implies_true, true_and, and_true, and_self]
    refine rd_of (v := .slice q m.bytes.length c) (cellOf hbd rfl) ⟨fun w' hw => rd_of (cellOf hw rfl) rfl, ?_⟩
    simp only [vcs, eqV, nilV, Option.map_some, Nat.mul_one, implies_true, true_and, and_true, and_self]
    refine (textX m.tick 32 (by omega)).mono ?_
    rintro _ w141 ⟨rfl, hf141⟩
    simp only [vcs, eqV, nilV, Option.map_some, Nat.mul_one, implies_true, true_and, and_true, and_self]
    have hb141 := hf141.keep hbd id
    refine ⟨hb141, cat3 (by simp only [List.length_append, ln]; omega) ?_⟩
    refine (textX m.bse 32 (by omega)).mono ?_
    rintro _ w148 ⟨rfl, hf148⟩
    simp only [vcs, eqV, nilV, Option.map_some, Nat.mul_one, implies_true, true_and, and_true, and_self]
    have hb148 := hf148.keep hb141 id
    refine ⟨hb148, cat3 (by simp only [List.length_append, ln]; omega) ?_⟩
    refine (textX m.bytes.length 10 (by omega)).mono ?_
    rintro _ w284 ⟨rfl, hf284⟩
    simp only [vcs, eqV, nilV, Option.map_some, Nat.mul_one, implies_true, true_and, and_true, and_self]
    have hb284 := hf284.keep hb148 id
    refine ⟨hb284, cat3 (by simp only [List.length_append, ln]; omega) ?_⟩
    refine rd_of (v := .slice q m.bytes.length c) (cellOf hb284 rfl) ?_
    simp only [vcs, eqV, nilV, Option.map_some, Nat.mul_one, implies_true, true_and, and_true, and_self]
    have hF284 := ((hd.trans hf141).trans hf148).trans hf284
    refine conv_bytes (by rw [row25]) (by rw [row5]) (by rw [row9]) rfl (hby.keep (hF10.trans hF284) fun _ _ => id) ?_
    simp only [vcs, eqV, nilV, Option.map_some, Nat.mul_one, implies_true, true_and, and_true, and_self]
    refine (of33_c hm.bytes (by omega)).mono ?_
    rintro _ w301 ⟨rfl, hf301⟩
    simp only [vcs, eqV, nilV, Option.map_some, Nat.mul_one, implies_true, true_and, and_true, and_self]
    refine cat1 (by simp only [List.length_append, ln, byteBits_length]; omega) ?_
    exact fin (bs := numBits m.tick 32 ++ (numBits m.bse 32 ++ (numBits m.bytes.length 10 ++ byteBits m.bytes))) (by unfold fieldBits; rw [if_neg k2, if_neg k3, if_neg k6, if_neg k7, if_neg k5, if_neg k8, if_pos k9]) (hF284.trans hf301) (by simp only [numBits, List.append_assoc])
  · exact fin (bs := []) (by unfold fieldBits; rw [if_neg k2, if_neg k3, if_neg k6, if_neg k7, if_neg k5, if_neg k8, if_neg k9]) (Fm.refl _ _) (by simp)
end Go.Proofs.YtipikchkbmgloaaDoor
namespace Go.Proofs.YtipikchkbmgloaaDoor
set_option linter.unusedSimpArgs false
set_option linter.unusedVariables false
open Go Go.RowKit VC
variable {w : World}
theorem slice_txt {bs : List Int} {l h : Nat} {kl kh : IntKind} {K : Value → World → Prop} (hl : l ≤ h) (hh : h ≤ bs.length) (k : K (.string (txt ((bs.take h).drop l))) w) :
    runs Tryd.prog (Instr.sliceAt 9 (.string (txt bs)) (some (.int kl (l : Int))) (some (.int kh (h : Int))) none) w K := by
  refine slice_str (by rw [row9]) hl (by rw [List.length_map]; exact hh) ?_
  rw [← List.map_take, ← List.map_drop]
  exact k
theorem chunk {ys : List Int} (hy : ∀ y ∈ ys, 0 ≤ y ∧ y < 256) {i : Nat} {y : Int} (h : ys[i]? = some y) : val (((byteBits ys).take (8 * i + 8)).drop (8 * i)) = y := by
  have hyy := hy y (List.mem_of_getElem? h)
  obtain ⟨m, rfl⟩ : ∃ m : Nat, y = m := ⟨y.toNat, by omega⟩
  have e : ((byteBits ys).take (8 * i + 8)).drop (8 * i) = bitsOf (m : Int) 8 := by
    have hil := (List.getElem?_eq_some_iff.1 h).1
    have hs : ys = ys.take i ++ (m : Int) :: ys.drop (i + 1) := by
      have h1 := (List.getElem?_eq_some_iff.1 h).2
      rw [← h1, ← List.drop_eq_getElem_cons hil, List.take_append_drop]
    have hl : (byteBits (ys.take i)).length = 8 * i := by rw [byteBits_length, List.length_take]; omega
    rw [hs, byteBits_app]
    rw [show byteBits ((m : Int) :: ys.drop (i + 1)) = bitsOf (IntKind.u64.wrap (m : Int)) 8 ++ byteBits (ys.drop (i + 1)) from rfl, u64n (by omega)]
    rw [List.take_append, hl, List.drop_append, List.take_of_length_le (by omega), List.drop_of_length_le (by omega), hl]
    rw [show 8 * i + 8 - 8 * i = 8 by omega, Nat.sub_self, List.drop_zero, List.nil_append, List.take_append_of_le_length (by rw [bitsOf_length]; omega), List.take_of_length_le (by rw [bitsOf_length]; omega)]
  rw [e, val_bitsOf m 8 (by omega)]
  omega
set_option maxRecDepth 20000 in
set_option maxHeartbeats 1000000 in
theorem bytes49_c {bs : List Int} (hb : ∀ b ∈ bs, Bit b) (hl : bs.length ≤ 100000000) : callV Tryd.prog 79 [.string (txt bs)] w fun v w' => v = .string (strOfNums (pack bs)) ∧ Fm none' w w' := by
  have hpl := pack_length bs
  have hbp := byteBits_pack bs hb
  refine vc79 _ w _ ?_
  refine ⟨fun u w' => ∃ z : Nat, bs.length + z ≤ 8 * (pack bs).length ∧ u 0 = .string (txt (bs ++ List.replicate z 0)) ∧ Fm none' w w', fun u _ => match u 0 with | .string s => 8 * (pack bs).length - s.size | _ => 0, ⟨0, by omega, by simp [alist], Fm.refl _ _⟩, ?_⟩
  rintro u w3 ⟨z, hz, h0, hF⟩
  change u 0 = _ at h0
  simp only [h0, vcs, eqV, nilV, Option.map_some, Nat.mul_one, implies_true, true_and, and_true, and_self, txt_size, List.length_append, List.length_replicate]
  have htm : Int.tmod ((bs.length + z : Nat) : Int) 8 = (((bs.length + z) % 8 : Nat) : Int) := by rw [Int.tmod_eq_emod_of_nonneg (Int.natCast_nonneg _)]; norm_cast
  rw [htm]
  refine br_ndec (fun h8 => ?_) (fun h8 => ?_)
  · refine cat_txt (ys := [0]) (by simp; omega) ?_
    simp only [vcs, eqV, nilV, Option.map_some, Nat.mul_one, implies_true, true_and, and_true, and_self]
    refine ⟨⟨z + 1, by omega, ?_, hF⟩, ?_⟩
    · show Value.string _ = _
      rw [List.append_assoc]
      congr 3
      rw [List.replicate_succ']
    · show 8 * (pack bs).length - (txt _).size < 8 * (pack bs).length - (txt _).size
      rw [txt_size, txt_size]; simp; omega
  · have hz8 : bs.length + z = 8 * (pack bs).length := by omega
    have hps : bs ++ List.replicate z 0 = byteBits (pack bs) := by
      rw [hbp]; congr 2; omega
    rw [hps]
    refine ⟨fun u' w' => ∃ i : Nat, i ≤ (pack bs).length ∧ u' 3 = .string (strOfNums ((pack bs).take i)) ∧ u' 4 = .int .i64 ((8 * i : Nat) : Int) ∧ Fm none' w w', fun u' _ => 8 * (pack bs).length - (intOf (u' 4)).toNat, ⟨0, by omega, rfl, rfl, hF⟩, ?_⟩
    rintro u' w12 ⟨i, hi, h3, h4, hF12⟩
    change u' 3 = _ at h3
    change u' 4 = _ at h4
    simp only [h3, h4, vcs, eqV, nilV, Option.map_some, Nat.mul_one, implies_true, true_and, and_true, and_self]
    rw [show ((bs.length + z : Nat) : Int) = ((8 * (pack bs).length : Nat) : Int) by rw [hz8]]
    refine br_dec (fun hil => ?_) (fun hil => ?_)
    · obtain ⟨y, hy⟩ : ∃ y, (pack bs)[i]? = some y := ⟨(pack bs)[i]'(by omega), by simp⟩
      have hyr := pack_range bs
      have hyy := hyr y (List.mem_of_getElem? hy)
      have hch := chunk hyr hy
      rw [w64 (by omega), show (((8 * i : Nat) : Int) + 8) = ((8 * i + 8 : Nat) : Int) by push_cast; rfl]
      refine slice_txt (by omega) (by rw [byteBits_length]; omega) ?_
      simp only [vcs, eqV, nilV, Option.map_some, Nat.mul_one, implies_true, true_and, and_true, and_self]
      refine (number55_c (fun b hb' => byteBits_bit _ b (List.mem_of_mem_take (List.mem_of_mem_drop hb'))) (by rw [List.length_drop, List.length_take]; omega)).mono ?_
      rw [hch]
      rintro _ w24 ⟨rfl, hf24⟩
      simp only [vcs, eqV, nilV, Option.map_some, Nat.mul_one, implies_true, true_and, and_true, and_self]
      have hw8 : IntKind.u8.wrap y = y := by simp only [IntKind.wrap, IntKind.bits, IntKind.signed]; simp; omega
      rw [hw8]
      refine build_1 (by rw [row25]) row5 rfl rfl fun w27 hb27 hs27 hf27 => ?_
      simp only [vcs, eqV, nilV, Option.map_some, Nat.mul_one, implies_true, true_and, and_true, and_self]
      refine conv_bytes (ys := [y]) (by rw [row25]) (by rw [row5]) (by rw [row9]) rfl (fun j y' hj => ?_) ?_
      · obtain rfl : j = 0 := by have := (List.getElem?_eq_some_iff.1 hj).1; simp at this; omega
        simp at hj; subst hj
        exact ⟨_, rfl, cellOf hb27 rfl⟩
      simp only [vcs, eqV, nilV, Option.map_some, Nat.mul_one, implies_true, true_and, and_true, and_self]
      rw [bv_cat (by rw [strOfNums_size, strOfNums_size, List.length_take]; simp; omega), strOfNums_app]
      simp only [vcs, eqV, nilV, Option.map_some, Nat.mul_one, implies_true, true_and, and_true, and_self]
      refine ⟨⟨i + 1, by omega, ?_, by show Value.int _ _ = _; congr 1, (hF12.trans hf24).trans hf27⟩, ?_⟩
      · show Value.string _ = _
        rw [List.take_add_one, hy]; rfl
      · show 8 * (pack bs).length - (((8 * i + 8 : Nat) : Int)).toNat < 8 * (pack bs).length - ((8 * i : Nat) : Int).toNat; omega
    · have : i = (pack bs).length := by omega
      subst this
      rw [List.take_length]
      exact ⟨rfl, hF12⟩
theorem oneBits_bit (m : Msg) : ∀ b ∈ oneBits m, Bit b := app_bit (bitsOf_bit _ _) (fieldBits_bit m)
theorem flat_bit (l : List Msg) : ∀ b ∈ l.flatMap oneBits, Bit b := by
  intro b hb
  simp only [List.mem_flatMap] at hb
  obtain ⟨m, _, hb⟩ := hb
  exact oneBits_bit m b hb
set_option maxRecDepth 20000 in
set_option maxHeartbeats 1000000 in
theorem write24_c {ms : List Msg} {p : Option Addr} {c : Nat} (hm : MsgsAt w w.heap.size p ms) (hok : Msok ms) (hk : ∀ m ∈ ms, 1 ≤ m.kind ∧ m.kind ≤ 9) (hlen : ms.length ≤ 100) :
    callV Tryd.prog 51 [.slice p ms.length c] w fun v w' => v = .string (strOfNums (pack (encBits ms))) ∧ Fm none' w w' := by
  have hsum : ∀ j, ((ms.take j).flatMap oneBits).length ≤ 1630400 := by
    intro j
    have h1 := oneBits_sum (ms := ms.take j) fun m hm => hok.len m (List.mem_of_mem_take hm)
    have h2 : (ms.take j).length ≤ 100 := by rw [List.length_take]; omega
    exact Nat.le_trans h1 (Nat.mul_le_mul_right 16304 h2)
  refine vc51 p ms.length c w _ ?_
  refine (textX (ms.length : Int) 5 (by omega)).mono ?_
  rintro _ w1 ⟨rfl, hf1⟩
  simp only [vcs, eqV, nilV, Option.map_some, Nat.mul_one, implies_true, true_and, and_true, and_self]
  refine ⟨fun u w' => ∃ j : Nat, j ≤ ms.length ∧ u 3 = .string (txt (bitsOf (IntKind.u64.wrap (ms.length : Int)) 5 ++ (ms.take j).flatMap oneBits)) ∧ u 4 = .int .i64 j ∧ Fm none' w w', fun u _ => ms.length - (intOf (u 4)).toNat, ⟨0, by omega, by simp [alist], rfl, hf1⟩, ?_⟩
  rintro u w6 ⟨j, hj, h3, h4, hF⟩
  change u 3 = _ at h3
  change u 4 = _ at h4
  simp only [h3, h4, vcs, eqV, nilV, Option.map_some, Nat.mul_one, implies_true, true_and, and_true, and_self]
  have hs := hsum j
  refine br_dec (fun hjl => ?_) (fun hjl => ?_)
  · obtain ⟨m, hmj⟩ : ∃ m, ms[j]? = some m := ⟨ms[j]'(by omega), by simp⟩
    have hmem := List.mem_of_getElem? hmj
    obtain ⟨ad, q, cq, rfl, hadN, hcells, hq, -⟩ := (hm.keep hF fun _ _ => id) j m hmj
    simp only [vcs, eqV, nilV, Option.map_some, Nat.mul_one, implies_true, true_and, and_true, and_self]
    refine ⟨by omega, rd_of hcells ?_⟩
    refine (bits48_c (hok.ok m hmem) (hok.len m hmem) hq (hk m hmem).1 (hk m hmem).2).mono ?_
    rintro _ w14 ⟨rfl, hf14⟩
    simp only [vcs, eqV, nilV, Option.map_some, Nat.mul_one, implies_true, true_and, and_true, and_self]
    have hfl := fieldBits_len m
    have hml := hok.len m hmem
    refine cat1 (by rw [List.length_append, bitsOf_length]; unfold oneBits at hs ⊢; rw [List.length_append, bitsOf_length]; omega) ?_
    rw [w64 (by omega)]
    refine ⟨⟨j + 1, by omega, ?_, rfl, hF.trans hf14⟩, ?_⟩
    · show Value.string _ = _
      rw [List.take_add_one, hmj, List.flatMap_append, List.append_assoc]
      simp
    · show ms.length - ((j : Int) + 1).toNat < ms.length - (j : Int).toNat; omega
  · have : j = ms.length := by omega
    subst this
    rw [List.take_length]
    rw [List.take_length] at hs
    refine (bytes49_c (app_bit (bitsOf_bit _ _) (flat_bit ms)) (by rw [List.length_append, bitsOf_length]; omega)).mono ?_
    rintro _ w20 ⟨rfl, hf20⟩
    simp only [vcs, eqV, nilV, Option.map_some, Nat.mul_one, implies_true, true_and, and_true, and_self]
    exact ⟨rfl, hF.trans hf20⟩
set_option maxRecDepth 20000 in
set_option maxHeartbeats 1000000 in
theorem encode15_c {ms : List Msg} {p : Option Addr} {c : Nat} (hm : MsgsAt w w.heap.size p ms) (hok : Msok ms) (hlen : ms.length ≤ 100) :
    callV Tryd.prog 26 [.slice p ms.length c] w fun v w' => v = .tuple #[.string (strOfNums (encodeM ms).1), .int .i64 (encodeM ms).2] ∧ Fm none' w w' := by
  refine vc26 p ms.length c w _ ?_
  refine ⟨fun u w' => ∃ j : Nat, j ≤ ms.length ∧ u 4 = .int .i64 j ∧ (∀ m ∈ ms.take j, rightM m = true) ∧ Fm none' w w', fun u _ => ms.length - (intOf (u 4)).toNat, ⟨0, by omega, rfl, by simp, Fm.refl _ _⟩, ?_⟩
  rintro u w3 ⟨j, hj, h4, hright, hF⟩
  change u 4 = _ at h4
  simp only [h4, vcs, eqV, nilV, Option.map_some, Nat.mul_one, implies_true, true_and, and_true, and_self]
  refine br_dec (fun hjl => ?_) (fun hjl => ?_)
  · obtain ⟨m, hmj⟩ : ∃ m, ms[j]? = some m := ⟨ms[j]'(by omega), by simp⟩
    have hmem := List.mem_of_getElem? hmj
    obtain ⟨ad, q, cq, rfl, hadN, hcells, hq, -⟩ := (hm.keep hF fun _ _ => id) j m hmj
    simp only [vcs, eqV, nilV, Option.map_some, Nat.mul_one, implies_true, true_and, and_true, and_self]
    refine ⟨by omega, rd_of hcells ?_⟩
    refine (right17_c (hok.ok m hmem) (by have := hok.len m hmem; omega) hq).mono ?_
    rintro _ w10 ⟨rfl, hf10⟩
    simp only [vcs, eqV, nilV, Option.map_some, Nat.mul_one, implies_true, true_and, and_true, and_self]
    refine br_ndec' (fun hr => ?_) (fun hr => ?_)
    · have : encodeM ms = ([], 1) := by
        unfold encodeM
        rw [if_neg]
        intro h
        rw [List.all_eq_true] at h
        rw [h m hmem] at hr; cases hr
      rw [this]
      exact ⟨rfl, hF.trans hf10⟩
    · rw [w64 (by omega)]
      refine ⟨⟨j + 1, by omega, rfl, ?_, hF.trans hf10⟩, by show ms.length - ((j : Int) + 1).toNat < ms.length - (j : Int).toNat; omega⟩
      intro x hx
      rw [List.take_add_one, hmj] at hx
      rcases List.mem_append.1 hx with hx | hx
      · exact hright x hx
      · simp at hx; subst hx; exact hr
  · have : j = ms.length := by omega
    subst this
    rw [List.take_length] at hright
    have hall : ms.all rightM = true := List.all_eq_true.2 hright
    have e1 : encodeM ms = if 16 < ms.length ∨ 1024 < (pack (encBits ms)).length then ([], 5) else (pack (encBits ms), 0) := by unfold encodeM; rw [if_pos hall]
    refine br_dec (fun h16 => ?_) (fun h16 => ?_)
    · have : encodeM ms = ([], 5) := e1.trans (if_pos (.inl (by omega)))
      rw [this]
      exact ⟨rfl, hF⟩
    · refine (write24_c (hm.fm hF) hok (fun m hm => ?_) hlen).mono ?_
      · have := rok_of (hok.ok m hm) (by have := hok.len m hm; omega) (hright m hm)
        exact known_iff.1 this.known
      rintro _ w14 ⟨rfl, hf14⟩
      simp only [vcs, eqV, nilV, Option.map_some, Nat.mul_one, implies_true, true_and, and_true, and_self, strOfNums_size]
      refine br_dec (fun h10 => ?_) (fun h10 => ?_)
      · have : encodeM ms = ([], 5) := e1.trans (if_pos (.inr (by omega)))
        rw [this]
        exact ⟨rfl, hF.trans hf14⟩
      · have : encodeM ms = (pack (encBits ms), 0) := e1.trans (if_neg (by omega))
        rw [this]
        exact ⟨rfl, hF.trans hf14⟩
end Go.Proofs.YtipikchkbmgloaaDoor
namespace Go.Proofs.YtipikchkbmgloaaDoor
set_option linter.unusedSimpArgs false
set_option linter.unusedVariables false
open Go Go.RowKit VC
variable {w : World}
theorem catN {a b : List Int} {K : Value → Prop} (h : a.length + b.length ≤ 1000000) (k : K (.string (strOfNums (a ++ b)))) : rd (binV .add (.string (strOfNums a)) (.string (strOfNums b))) K := by
  refine rd_of ?_ k
  show catS _ _ = _
  rw [catS_of (by rw [strOfNums_size, strOfNums_size]; omega), strOfNums_app]
theorem catO {a b : List Int} {K : Value → Prop} (h : a.length + b.length ≤ 1000000) (k : K (.string (strOfNums (a ++ b)))) : rd (orO (binV .add (.string (strOfNums a)) (.string (strOfNums b))) none) K := by
  have e : binV .add (.string (strOfNums a)) (.string (strOfNums b)) = some (.string (strOfNums (a ++ b))) := by
    show catS _ _ = _
    rw [catS_of (by rw [strOfNums_size, strOfNums_size]; omega), strOfNums_app]
  rw [e]
  exact k
theorem beB_4 (n : Nat) (hn : n < 4294967296) : beB n 4 = beB (n / 65536) 2 ++ beB (n % 65536) 2 := by
  simp [beB, List.range_succ]
  omega
theorem flag_str (b : Bool) : (if b then Value.string ⟨#[1]⟩ else Value.string ⟨#[0]⟩) = .string (strOfNums (flagB b)) := by cases b <;> rfl
set_option maxRecDepth 20000 in
set_option maxHeartbeats 1000000 in
theorem encode11_c {d : Dg} {p : Option Addr} {c : Nat} (hd : Dok d) (hm : MsgsAt w w.heap.size p d.list) (hok : Msok d.list) (hlen : d.list.length ≤ 100) :
    callV Tryd.prog 11 [dgC d p c] w fun v w' => v = .tuple #[.string (strOfNums (encD d).1), .int .i64 (encD d).2] ∧ Fm none' w w' := by
  obtain ⟨hs, hl, hb⟩ := hd
  refine vc11 d.seq d.any d.last d.bits p d.list.length c w _ ?_
  refine allocC_of fun w1 hb1 hs1 hf1 => ?_
  have c1 : w1.cell? ⟨w.heap.size, 1, none⟩ = some (.bool d.any) := cellOf hb1 rfl
  have c2 : w1.cell? ⟨w.heap.size, 2, none⟩ = some (.int .u16 d.last) := cellOf hb1 rfl
  have c3 : w1.cell? ⟨w.heap.size, 3, none⟩ = some (.int .u32 d.bits) := cellOf hb1 rfl
  have c4 : w1.cell? ⟨w.heap.size, 4, none⟩ = some (.slice p d.list.length c) := cellOf hb1 rfl
  have hnil : ∀ (e : Int) (w' : World), encD d = ([], e) → Fm none' w w' → (.tuple #[.string ⟨⟨[]⟩⟩, .int .i64 e] : Value) = .tuple #[.string (strOfNums (encD d).1), .int .i64 (encD d).2] ∧ Fm none' w w' := by
    intro e w' he hf
    rw [he]
    exact ⟨rfl, hf⟩
  refine ⟨fun u w' => w' = w1 ∧ u 4 = .string (strOfNums (flagB d.any)), ?_, ?_⟩
  · simp only [c1, vcs, eqV, nilV, Option.map_some, Nat.mul_one, implies_true, true_and, and_true, and_self]
    cases d.any with
    | true => exact rfl
    | false => exact rfl
  rintro u w7 ⟨rfl, h4⟩
  change u 4 = _ at h4
  refine ⟨fun _ w' => w' = w7 ∧ ¬ (d.any = false ∧ (d.last ≠ 0 ∨ d.bits ≠ 0)), ?_, ?_⟩
  · simp only [c1, c2, c3, vcs, eqV, nilV, Option.map_some, Nat.mul_one, implies_true, true_and, and_true, and_self]
    cases ha : d.any with
    | true => exact fun h => by cases h.1
    | false =>
      refine br_ndec (fun h => ?_) (fun h => ?_)
      · exact hnil 1 w7 (by unfold encD; rw [if_pos ⟨ha, .inl (by omega)⟩]) hf1
      · refine br_ndec (fun h' => ?_) (fun h' => ?_)
        · exact hnil 1 w7 (by unfold encD; rw [if_pos ⟨ha, .inr (by omega)⟩]) hf1
        · exact fun h => by rcases h.2 with e | e <;> omega
  rintro u' w18 ⟨rfl, hgo⟩
  simp only [c4, vcs, eqV, nilV, Option.map_some, Nat.mul_one, implies_true, true_and, and_true, and_self]
  refine (encode15_c (hm.fm hf1) hok hlen).mono ?_
  rintro _ w25 ⟨rfl, hf25⟩
  simp only [vcs, eqV, nilV, Option.map_some, Nat.mul_one, implies_true, true_and, and_true, and_self, List.getElem?_toArray, List.getElem?_cons_zero, List.getElem?_cons_succ]
  have hF25 := hf1.trans hf25
  refine br_ndec (fun he => ?_) (fun he => ?_)
  · exact hnil _ w25 (by unfold encD; rw [if_neg hgo, if_pos he]) hF25
  have he0 : (encodeM d.list).2 = 0 := he
  have hbox : w25.drew.heap[w.heap.size]? = some (.cells #[.int .u16 d.seq, .bool d.any, .int .u16 d.last, .int .u32 d.bits, .slice p d.list.length c] 35 (0, 0)) := hf25.keep hb1 id
  refine ⟨fun w' => w'.heap[w.heap.size]? = some (.cells #[.int .u16 d.seq, .bool d.any, .int .u16 d.last, .int .u32 d.bits, .slice p d.list.length c] 35 (0, 0)), hbox, ?_⟩
  refine rd_of (v := .int .u16 d.seq) (cellOf hbox rfl) ⟨fun w' hw => rd_of (v := .int .u16 d.seq) (cellOf hw rfl) rfl, ?_⟩
  simp only [h4, vcs, eqV, nilV, Option.map_some, Nat.mul_one, implies_true, true_and, and_true, and_self]
  refine rd_of (v := .int .u16 d.last) (cellOf hbox rfl) ⟨fun w' hw => rd_of (v := .int .u16 d.last) (cellOf hw rfl) rfl, ?_⟩
  simp only [vcs, eqV, nilV, Option.map_some, Nat.mul_one, implies_true, true_and, and_true, and_self]
  refine rd_of (v := .int .u32 d.bits) (cellOf hbox rfl) ⟨fun w' hw => rd_of (v := .int .u32 d.bits) (cellOf hw rfl) rfl, ?_⟩
  simp only [vcs, eqV, nilV, Option.map_some, Nat.mul_one, implies_true, true_and, and_true, and_self]
  refine rd_of (v := .int .u32 d.bits) (cellOf hbox rfl) ⟨fun w' hw => rd_of (v := .int .u32 d.bits) (cellOf hw rfl) rfl, ?_⟩
  simp only [vcs, eqV, nilV, Option.map_some, Nat.mul_one, implies_true, true_and, and_true, and_self]
  have hel : (encodeM d.list).1.length ≤ 1024 := by
    obtain ⟨-, -, h3, h4⟩ := enc_ok hok he0
    rw [h4]; exact h3
  have her := enc_range d.list
  have lf : (flagB d.any).length = 1 := rfl
  rw [show IntKind.i64.wrap (d.seq : Int) = (d.seq : Int) from w64 (by omega), show IntKind.i64.wrap (d.last : Int) = (d.last : Int) from w64 (by omega)]
  refine (two27_c hs).mono ?_
  rintro _ w79 ⟨rfl, hf79⟩
  simp only [vcs, eqV, nilV, Option.map_some, Nat.mul_one, implies_true, true_and, and_true, and_self]
  refine ⟨hf79.keep hbox id, catO (by simp [beB_length, lf]) ⟨fun w' hw => catO (by simp [beB_length, lf]) rfl, ?_⟩⟩
  simp only [vcs, eqV, nilV, Option.map_some, Nat.mul_one, implies_true, true_and, and_true, and_self]
  refine (two27_c hl).mono ?_
  rintro _ w87 ⟨rfl, hf87⟩
  have hF87 := hf79.trans hf87
  simp only [vcs, eqV, nilV, Option.map_some, Nat.mul_one, implies_true, true_and, and_true, and_self]
  refine ⟨hF87.keep hbox id, catO (by simp [beB_length, lf]) ⟨fun w' hw => catO (by simp [beB_length, lf]) rfl, ?_⟩⟩
  simp only [vcs, eqV, nilV, Option.map_some, Nat.mul_one, implies_true, true_and, and_true, and_self]
  have t1 : IntKind.i64.wrap (IntKind.u32.wrap (Int.tdiv (d.bits : Int) 65536)) = ((d.bits / 65536 : Nat) : Int) := by
    rw [Int.tdiv_eq_ediv_of_nonneg (by omega), show (d.bits : Int) / 65536 = ((d.bits / 65536 : Nat) : Int) by omega, w32 (by omega), w64 (by omega)]
  have t2 : IntKind.i64.wrap (Int.tmod (d.bits : Int) 65536) = ((d.bits % 65536 : Nat) : Int) := by
    rw [Int.tmod_eq_emod_of_nonneg (by omega), show (d.bits : Int) % 65536 = ((d.bits % 65536 : Nat) : Int) by omega, w64 (by omega)]
  rw [t1, t2]
  refine (two27_c (n := d.bits / 65536) (by omega)).mono ?_
  rintro _ w95 ⟨rfl, hf95⟩
  have hF95 := hF87.trans hf95
  simp only [vcs, eqV, nilV, Option.map_some, Nat.mul_one, implies_true, true_and, and_true, and_self]
  refine ⟨hF95.keep hbox id, catO (by simp [beB_length, lf]) ⟨fun w' hw => catO (by simp [beB_length, lf]) rfl, ?_⟩⟩
  simp only [vcs, eqV, nilV, Option.map_some, Nat.mul_one, implies_true, true_and, and_true, and_self]
  refine (two27_c (n := d.bits % 65536) (by omega)).mono ?_
  rintro _ w103 ⟨rfl, hf103⟩
  have hF103 := hF95.trans hf103
  simp only [vcs, eqV, nilV, Option.map_some, Nat.mul_one, implies_true, true_and, and_true, and_self]
  refine ⟨hF103.keep hbox id, catO (by simp [beB_length, lf]) ⟨fun w' hw => catO (by simp [beB_length, lf]) rfl, ?_⟩⟩
  simp only [vcs, eqV, nilV, Option.map_some, Nat.mul_one, implies_true, true_and, and_true, and_self]
  refine catO (by simp [beB_length, lf]; omega) ⟨fun w' hw => catO (by simp [beB_length, lf]; omega) rfl, ?_⟩
  simp only [vcs, eqV, nilV, Option.map_some, Nat.mul_one, implies_true, true_and, and_true, and_self]
  have ehd : beB d.seq 2 ++ flagB d.any ++ beB d.last 2 ++ beB (d.bits / 65536) 2 ++ beB (d.bits % 65536) 2 = headB d := by
    unfold headB
    rw [beB_4 _ hb, ← List.append_assoc]
  rw [ehd]
  obtain ⟨x, hx⟩ : ∃ x, x = headB d ++ (encodeM d.list).1 := ⟨_, rfl⟩
  rw [← hx]
  have hxl : x.length = 9 + (encodeM d.list).1.length := by rw [hx, List.length_append, headB_length]
  have hxr : ∀ y ∈ x, 0 ≤ y ∧ y < 256 := by
    intro y hy
    rw [hx, List.mem_append] at hy
    exact hy.elim (headB_r d y) (her y)
  refine (sum28_c hxr (by omega)).mono ?_
  rintro _ _ ⟨rfl, rfl⟩
  simp only [vcs, eqV, nilV, Option.map_some, Nat.mul_one, implies_true, true_and, and_true, and_self]
  have hcl := crcF_lt x 65535 (by omega) hxr
  rw [show IntKind.i64.wrap ((crcF 65535 x : Nat) : Int) = ((crcF 65535 x : Nat) : Int) from w64 (by omega)]
  refine (two27_c hcl).mono ?_
  rintro _ w121 ⟨rfl, hf121⟩
  simp only [vcs, eqV, nilV, Option.map_some, Nat.mul_one, implies_true, true_and, and_true, and_self]
  have hbl : x.length + (beB (crcF 65535 x) 2).length ≤ 1000000 := by rw [beB_length]; omega
  first | refine catO hbl ?_ | refine catN hbl ?_
  simp only [vcs, eqV, nilV, Option.map_some, Nat.mul_one, implies_true, true_and, and_true, and_self, strOfNums_size]
  have hF121 : Fm none' w w121 := ((hF25.trans (Fm.drew w25)).trans hF103).trans hf121
  have hsl : sealB x = x ++ beB (crcF 65535 x) 2 := rfl
  have hen : encD d = if 1024 < (sealB x).length then ([], 5) else (sealB x, 0) := by
    unfold encD
    rw [if_neg hgo, if_neg (by simpa using he0), ← hx]
  refine br_dec (fun h => ?_) (fun h => ?_)
  · exact hnil 5 w121 (by rw [hen, if_pos (by rw [hsl]; omega)]) hF121
  · rw [hen, if_neg (by rw [hsl]; omega)]
    exact ⟨rfl, hF121⟩
end Go.Proofs.YtipikchkbmgloaaDoor
namespace Go.Proofs.YtipikchkbmgloaaDoor
set_option linter.unusedSimpArgs false
set_option linter.unusedVariables false
open Go VC
theorem vc57 (a : Addr) (b : Int) (w : World) (R : Value → World → Prop)
  (h : callV Tryd.prog (83 : Nat) [Value.pointer (some a), Value.int IntKind.i64 b] w fun v0 w1 => isStr v0 fun x2 => callV Tryd.prog (84 : Nat) [Value.string x2] w1 fun v3 w4 => isK IntKind.u64 v3 fun i5 => R (Value.int IntKind.i64 (IntKind.wrap IntKind.i64 i5)) w4) :
  callV Tryd.prog 57 [Value.pointer (some a), Value.int IntKind.i64 b] w R :=
  vc_of hm noHints Tryd.func57 ent57 (by kernel_rfl) h

theorem vc58 (a : Addr) (b : Bool) (w : World) (R : Value → World → Prop)
  (h : br (!b) (rd (World.cell? w (Addr.add a (1 : Nat))) fun v0 => isK IntKind.i64 v0 fun i1 => br (decide (i1 = (0 : Int))) (stC w (Addr.add a (1 : Nat)) [Value.int IntKind.i64 (3 : Int)] fun w2 => R (Value.tuple #[]) w2) (R (Value.tuple #[]) w)) (R (Value.tuple #[]) w)) :
  callV Tryd.prog 58 [Value.pointer (some a), Value.bool b] w R :=
  vc_of hm noHints Tryd.func58 ent58 (by kernel_rfl) h

theorem vc60 (a : ByteArray) (w : World) (R : Value → World → Prop)
  (h : loopC (alist [((3 : Nat), Value.int IntKind.i64 (0 : Int))]) w fun u0 u1 => ∀ (u2 : Nat → Value) (w3 : World), u0 (alist [((3 : Nat), u2 (3 : Nat))]) w3 → isK IntKind.i64 (u2 (3 : Nat)) fun i5 => br (decide (i5 < (↑(ByteArray.size a) : Int))) (isK IntKind.i64 (u2 (3 : Nat)) fun i6 => runs Tryd.prog (Instr.index (9 : Nat) (Value.string a) (Value.int IntKind.i64 i6)) w3 fun v7 w8 => isK IntKind.u8 v7 fun i9 => br (!decide (i9 = (48 : Int))) (R (Value.bool false) w8) (isK IntKind.i64 (u2 (3 : Nat)) fun i10 => again u0 u1 (alist [((3 : Nat), Value.int IntKind.i64 (IntKind.wrap IntKind.i64 (i10 + (1 : Int))))]) w8 (alist [((3 : Nat), u2 (3 : Nat))]) w3)) (R (Value.bool (decide ((↑(ByteArray.size a) : Int) < (8 : Int)))) w3)) :
  callV Tryd.prog 60 [Value.string a] w R :=
  vc_of hm ⟨fun _ => false, fun _ => .done, fun n => match n with | 2 => [3] | _ => []⟩ Tryd.func60 ent60 (by kernel_rfl) h

theorem vc83 (a : Addr) (b : Int) (w : World) (R : Value → World → Prop)
  (h : rd (World.cell? w (Addr.add a (1 : Nat))) fun v0 => isK IntKind.i64 v0 fun i1 => br (decide (i1 = (0 : Int))) (rd (World.cell? w a) fun v2 => isStr v2 fun x3 => br (decide ((↑(ByteArray.size x3) : Int) < b)) (stC w (Addr.add a (1 : Nat)) [Value.int IntKind.i64 (2 : Int)] fun w4 => rd (World.cell? w4 (Addr.add a (1 : Nat))) fun v5 => isK IntKind.i64 v5 fun i6 => br (!decide (i6 = (0 : Int))) (R (Value.string { data := #[] : ByteArray }) w4) (rd (World.cell? w4 a) fun v7 => isStr v7 fun x8 => runs Tryd.prog (Instr.sliceAt (9 : Nat) (Value.string x8) none (some (Value.int IntKind.i64 b)) none) w4 fun v9 w10 => isStr v9 fun x11 => rd (World.cell? w10 a) fun v12 => isStr v12 fun x13 => runs Tryd.prog (Instr.sliceAt (9 : Nat) (Value.string x13) (some (Value.int IntKind.i64 b)) none none) w10 fun v14 w15 => isStr v14 fun x16 => stC w15 a [Value.string x16] fun w17 => R (Value.string x11) w17)) (rd (World.cell? w (Addr.add a (1 : Nat))) fun v18 => isK IntKind.i64 v18 fun i19 => br (!decide (i19 = (0 : Int))) (R (Value.string { data := #[] : ByteArray }) w) (rd (World.cell? w a) fun v20 => isStr v20 fun x21 => runs Tryd.prog (Instr.sliceAt (9 : Nat) (Value.string x21) none (some (Value.int IntKind.i64 b)) none) w fun v22 w23 => isStr v22 fun x24 => rd (World.cell? w23 a) fun v25 => isStr v25 fun x26 => runs Tryd.prog (Instr.sliceAt (9 : Nat) (Value.string x26) (some (Value.int IntKind.i64 b)) none none) w23 fun v27 w28 => isStr v27 fun x29 => stC w28 a [Value.string x29] fun w30 => R (Value.string x24) w30))) (rd (World.cell? w (Addr.add a (1 : Nat))) fun v31 => isK IntKind.i64 v31 fun i32 => br (!decide (i32 = (0 : Int))) (R (Value.string { data := #[] : ByteArray }) w) (rd (World.cell? w a) fun v33 => isStr v33 fun x34 => runs Tryd.prog (Instr.sliceAt (9 : Nat) (Value.string x34) none (some (Value.int IntKind.i64 b)) none) w fun v35 w36 => isStr v35 fun x37 => rd (World.cell? w36 a) fun v38 => isStr v38 fun x39 => runs Tryd.prog (Instr.sliceAt (9 : Nat) (Value.string x39) (some (Value.int IntKind.i64 b)) none none) w36 fun v40 w41 => isStr v40 fun x42 => stC w41 a [Value.string x42] fun w43 => R (Value.string x37) w43))) :
  callV Tryd.prog 83 [Value.pointer (some a), Value.int IntKind.i64 b] w R :=
  vc_of hm noHints Tryd.func83 ent83 (by kernel_rfl) h

theorem vc85 (a : Addr) (b : Int) (w : World) (R : Value → World → Prop)
  (h : callV Tryd.prog (83 : Nat) [Value.pointer (some a), Value.int IntKind.i64 b] w fun v0 w1 => isStr v0 fun x2 => callV Tryd.prog (92 : Nat) [Value.string x2] w1 fun v3 w4 => isK IntKind.i64 v3 fun i5 => R (Value.int IntKind.i64 i5) w4) :
  callV Tryd.prog 85 [Value.pointer (some a), Value.int IntKind.i64 b] w R :=
  vc_of hm noHints Tryd.func85 ent85 (by kernel_rfl) h

theorem vc86 (a : Addr) (b : Int) (c : Int) (w : World) (R : Value → World → Prop)
  (h : allocC w (Obj.cells #[Value.int IntKind.i64 (0 : Int), Value.int IntKind.i64 (0 : Int), Value.int IntKind.i64 (0 : Int)] (51 : Nat)) fun n0 w1 => allocC w1 (Obj.cells #[Value.int IntKind.i64 (0 : Int), Value.int IntKind.i64 (0 : Int), Value.int IntKind.i64 (0 : Int)] (51 : Nat)) fun n2 w3 => stC w3 { block := n2, off := (0 : Nat) : Addr } [Value.int IntKind.i64 (0 : Int), Value.int IntKind.i64 (0 : Int), Value.int IntKind.i64 (0 : Int)] fun w4 => callV Tryd.prog (85 : Nat) [Value.pointer (some a), Value.int IntKind.i64 b] w4 fun v5 w6 => isK IntKind.i64 v5 fun i7 => stC w6 { block := n2, off := (0 : Nat) : Addr } [Value.int IntKind.i64 i7] fun w8 => cutC (fun u9 => br (decide (c < (0 : Int))) (callV Tryd.prog (58 : Nat) [Value.pointer (some a), Value.bool true] w8 fun v10 w11 => u9 (alist []) w11) (rd (World.cell? w8 { block := n2, off := (0 : Nat) : Addr }) fun v12 => isK IntKind.i64 v12 fun i13 => br (decide (i13 ≤ c)) (rd (World.cell? w8 { block := n2, off := (0 : Nat) : Addr }) fun v14 => isK IntKind.i64 v14 fun i15 => callV Tryd.prog (58 : Nat) [Value.pointer (some a), Value.bool (decide (IntKind.wrap IntKind.i64 ((0 : Int) - c) ≤ i15))] w8 fun v16 w17 => u9 (alist []) w17) (callV Tryd.prog (58 : Nat) [Value.pointer (some a), Value.bool false] w8 fun v18 w19 => u9 (alist []) w19))) fun u20 => ∀ (u21 : Nat → Value) (w22 : World), u20 (alist []) w22 → callV Tryd.prog (85 : Nat) [Value.pointer (some a), Value.int IntKind.i64 b] w22 fun v24 w25 => isK IntKind.i64 v24 fun i26 => stC w25 { block := n2, off := (1 : Nat) : Addr } [Value.int IntKind.i64 i26] fun w27 => cutC (fun u28 => br (decide (c < (0 : Int))) (callV Tryd.prog (58 : Nat) [Value.pointer (some a), Value.bool true] w27 fun v29 w30 => u28 (alist []) w30) (rd (World.cell? w27 { block := n2, off := (1 : Nat) : Addr }) fun v31 => isK IntKind.i64 v31 fun i32 => br (decide (i32 ≤ c)) (rd (World.cell? w27 { block := n2, off := (1 : Nat) : Addr }) fun v33 => isK IntKind.i64 v33 fun i34 => callV Tryd.prog (58 : Nat) [Value.pointer (some a), Value.bool (decide (IntKind.wrap IntKind.i64 ((0 : Int) - c) ≤ i34))] w27 fun v35 w36 => u28 (alist []) w36) (callV Tryd.prog (58 : Nat) [Value.pointer (some a), Value.bool false] w27 fun v37 w38 => u28 (alist []) w38))) fun u39 => ∀ (u40 : Nat → Value) (w41 : World), u39 (alist []) w41 → callV Tryd.prog (85 : Nat) [Value.pointer (some a), Value.int IntKind.i64 b] w41 fun v43 w44 => isK IntKind.i64 v43 fun i45 => stC w44 { block := n2, off := (2 : Nat) : Addr } [Value.int IntKind.i64 i45] fun w46 => cutC (fun u47 => br (decide (c < (0 : Int))) (callV Tryd.prog (58 : Nat) [Value.pointer (some a), Value.bool true] w46 fun v48 w49 => u47 (alist []) w49) (rd (World.cell? w46 { block := n2, off := (2 : Nat) : Addr }) fun v50 => isK IntKind.i64 v50 fun i51 => br (decide (i51 ≤ c)) (rd (World.cell? w46 { block := n2, off := (2 : Nat) : Addr }) fun v52 => isK IntKind.i64 v52 fun i53 => callV Tryd.prog (58 : Nat) [Value.pointer (some a), Value.bool (decide (IntKind.wrap IntKind.i64 ((0 : Int) - c) ≤ i53))] w46 fun v54 w55 => u47 (alist []) w55) (callV Tryd.prog (58 : Nat) [Value.pointer (some a), Value.bool false] w46 fun v56 w57 => u47 (alist []) w57))) fun u58 => ∀ (u59 : Nat → Value) (w60 : World), u58 (alist []) w60 → rd (cellsAt w60 { block := n2, off := (0 : Nat) : Addr } (3 : Nat)) fun l62 => rd (gd (List.length l62 == (3 : Nat))) fun _x => stC w60 { block := n0, off := (0 : Nat) : Addr } l62 fun w63 => rd (cellsAt w63 { block := n0, off := (0 : Nat) : Addr } (3 : Nat)) fun l64 => R (Value.agg (List.toArray l64)) w63) :
  callV Tryd.prog 86 [Value.pointer (some a), Value.int IntKind.i64 b, Value.int IntKind.i64 c] w R :=
  vc_of hm ⟨fun n => match n with | 4 => true | 6 => true | 8 => true | _ => false, fun _ => .done, fun n => match n with | 4 => [] | 6 => [] | 8 => [] | _ => []⟩ Tryd.func86 ent86 (by kernel_rfl) h

theorem vc87 (a : Addr) (w : World) (R : Value → World → Prop)
  (h : callV Tryd.prog (57 : Nat) [Value.pointer (some a), Value.int IntKind.i64 (31 : Int)] w fun v0 w1 => isK IntKind.i64 v0 fun i2 => callV Tryd.prog (58 : Nat) [Value.pointer (some a), Value.bool (decide ((0 : Int) < i2))] w1 fun v3 w4 => R (Value.int IntKind.i64 i2) w4) :
  callV Tryd.prog 87 [Value.pointer (some a)] w R :=
  vc_of hm noHints Tryd.func87 ent87 (by kernel_rfl) h

theorem vc92 (a : ByteArray) (w : World) (R : Value → World → Prop)
  (h : callV Tryd.prog (84 : Nat) [Value.string a] w fun v0 w1 => isK IntKind.u64 v0 fun i2 => br (!decide (a = { data := #[] : ByteArray })) (runs Tryd.prog (Instr.index (9 : Nat) (Value.string a) (Value.int IntKind.i64 (0 : Int))) w1 fun v3 w4 => isK IntKind.u8 v3 fun i5 => br (decide (i5 = (49 : Int))) (br (decide ((↑(ByteArray.size a) : Int) < (64 : Int))) (R (Value.int IntKind.i64 (IntKind.wrap IntKind.i64 (IntKind.wrap IntKind.i64 i2 - IntKind.wrap IntKind.i64 ((1 : Int) * (2 : Int) ^ min (ByteArray.size a % (18446744073709551616 : Nat)) (64 : Nat))))) w4) (R (Value.int IntKind.i64 (IntKind.wrap IntKind.i64 i2)) w4)) (R (Value.int IntKind.i64 (IntKind.wrap IntKind.i64 i2)) w4)) (R (Value.int IntKind.i64 (IntKind.wrap IntKind.i64 i2)) w1)) :
  callV Tryd.prog 92 [Value.string a] w R :=
  vc_of hm noHints Tryd.func92 ent92 (by kernel_rfl) h

end Go.Proofs.YtipikchkbmgloaaDoor
