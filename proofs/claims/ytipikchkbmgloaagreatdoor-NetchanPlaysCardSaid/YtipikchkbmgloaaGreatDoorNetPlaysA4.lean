/- What NetPlays needs, part 4 of 13: Maps Bits Put Wri Num C1 Vec Fld Fds Rd Rd2 RNum C4 RBy RVec RFld RFds C2 C3 Same Same2 Right Enc.  Conditions: as each part says. -/
import Derived.MapKept
import Derived.Test.YtipikchkbmgloaaGreatDoorNetPlaysA3
namespace Go.Proofs.YtipikchkbmgloaaGreatDoor.VC
set_option linter.unusedSimpArgs false
set_option linter.unusedVariables false
open Go Go.RowKit Go.MapKept
theorem int_of_row {P : Program} {t : TypeId} {q : IntKind} (h : (row P t).k = .int q) : P.underlying t = some (.int q) := by
  obtain ⟨i, d, hi, hd, hr⟩ := row_spec (P := P) (t := t) (by rw [h]; simp)
  rw [hr] at h
  cases d <;> simp [kOf] at h
  subst h
  exact hd
section
variable {α : Type} {enc : α → Value} {P : Program} {w : World} {t kt et : TypeId} {q : IntKind} {z : α} {b : Nat} {l : List (Int × α)}
end
end Go.Proofs.YtipikchkbmgloaaGreatDoor.VC
namespace Go.Proofs.YtipikchkbmgloaaGreatDoor
set_option linter.unusedSimpArgs false
set_option linter.unusedVariables false
open Go Go.RowKit VC
def bitAt (n : Int) (i : Nat) : Int := IntKind.u8.wrap (andI .u64 (n.fdiv (2 ^ (min i 64))) 1)
def bitsOf (n : Int) (k : Nat) : List Int := (List.range k).map fun j => bitAt n (k - 1 - j)
theorem bitsOf_length (n : Int) (k : Nat) : (bitsOf n k).length = k := by simp [bitsOf]
theorem bitsOf_take (n : Int) (k j : Nat) (hj : j < k) : (bitsOf n k).take (j + 1) = (bitsOf n k).take j ++ [bitAt n (k - 1 - j)] := by
 rw [List.take_add_one, bitsOf, List.getElem?_map, List.getElem?_range hj]
 rfl
theorem seq59 {c0 c1 k : Nat} {n : Int} {w : World} (h0 : w.heap[c0]? = some (.cells #[.int .i64 k] 3 (0, 0))) (h1 : w.heap[c1]? = some (.cells #[.int .u64 n] 166 (0, 0))) (hk : k ≤ 64) :
  SeqStopsK Fence.wide 0 Tryz.prog 95 [.pointer (some ⟨c0, 0, none⟩), .pointer (some ⟨c1, 0, none⟩)].toArray (fun x : Int => ((List.range 1).map (fun (_ : Nat) => Value.int .u8 x)).toArray) (KpB fun i => i = c0 ∨ i = c1) (fun ys => ys = bitsOf n k) (fun ys => ys <+: bitsOf n k) k w := by
 intro l J Jx W hW hJ hJx hY hJ0
 have hf := below_fm hW
 have key : callV Tryz.prog 95 [.func (.yield l) #[] #[], .pointer (some ⟨c0, 0, none⟩), .pointer (some ⟨c1, 0, none⟩)] W fun v W' => (∃ xs, xs = bitsOf n k ∧ J xs W') ∨ (∃ pre, pre <+: bitsOf n k ∧ Jx pre W') := by
  have g0 := hf.keep h0 id
  have g1 := hf.keep h1 id
  refine vc95 _ ⟨c0, 0, none⟩ ⟨c1, 0, none⟩ W _ (rd_of (v := .int .i64 k) (cellOf g0 rfl) ?_)
  simp only [vq, eqV, nilV]
  rw [w64 (by omega)]
  refine ⟨fun u w' => ∃ j : Nat, j ≤ k ∧ u 4 = .int .i64 ((k : Int) - 1 - j) ∧ J ((bitsOf n k).take j) w' ∧ w'.heap[c0]? = some (.cells #[.int .i64 k] 3 (0, 0)) ∧ w'.heap[c1]? = some (.cells #[.int .u64 n] 166 (0, 0)), fun u _ => (intOf (u 4) + 1).toNat, ⟨0, by omega, by simp; rfl, hJ0, g0, g1⟩, ?_⟩
  rintro u w5 ⟨j, hj, h4, hJj, g0, g1⟩
  change u 4 = .int .i64 ((k : Int) - 1 - j) at h4
  simp only [h4, vq, eqV, nilV]
  refine br_dec (fun hi => ?_) (fun hi => ?_)
  ·have hjk : j < k := by omega
   refine rd_of (v := .int .u64 n) (cellOf g1 rfl) ?_
   simp only [vq, eqV, nilV]
   rw [show ((k : Int) - 1 - j) = ((k - 1 - j : Nat) : Int) by omega, bv_shr]
   refine rd_of rfl ?_
   simp only [vq, eqV, nilV, callF_yield]
   refine yield_of (hY _ (bitAt n (k - 1 - j)) w5 hJj (by rw [List.length_take, bitsOf_length]; omega)) ?_
   rintro e w17 (⟨rfl, hJ1, hKp⟩ | ⟨rfl, hJx1⟩)
   ·refine ⟨_, rfl, ?_⟩
    simp only [vq, eqV, nilV, Bool.not_true]
    rw [w64 (by omega)]
    refine ⟨⟨j + 1, by omega, ?_, by rw [bitsOf_take n k j hjk]; exact hJ1, hKp _ _ (.inl rfl) g0, hKp _ _ (.inr rfl) g1⟩, ?_⟩
    ·show Value.int .i64 _ = _
     congr 1; omega
    ·show ((((k - 1 - j : Nat) : Int) - 1) + 1).toNat < (((k - 1 - j : Nat) : Int) + 1).toNat; omega
   ·refine ⟨_, rfl, ?_⟩
    simp only [vq, eqV, nilV, Bool.not_false]
    exact .inr ⟨_, by rw [← bitsOf_take n k j hjk]; exact List.take_prefix _ _, hJx1⟩
  ·refine .inl ⟨_, rfl, ?_⟩
   rw [show j = k by omega, List.take_of_length_le (by rw [bitsOf_length]; omega)] at hJj
   exact hJj
 refine callsIn_wide.2 ?_
 exact key.2.mono fun e w' ⟨v, he, h⟩ => ⟨⟨v, he⟩, h⟩
def packStep (ys : List Int) (n : Nat) (b : Int) : List Int :=
 let ys' := if n % 8 = 0 then ys ++ [0] else ys
 ys'.set (n / 8) (orI .u8 (ys'.getD (n / 8) 0) (IntKind.u8.wrap (b * 2 ^ (7 - n % 8))))
def packGo : List Int → Nat → List Int → List Int
 | ys, _, [] => ys
 | ys, n, b :: bs => packGo (packStep ys n b) (n + 1) bs
def pack (bs : List Int) : List Int := packGo [] 0 bs
theorem packGo_append : ∀ (bs cs : List Int) (ys : List Int) (n : Nat), packGo ys n (bs ++ cs) = packGo (packGo ys n bs) (n + bs.length) cs := by
 intro bs
 induction bs with
 | nil => intro cs ys n; rfl
 | cons b bs ih => intro cs ys n; simp only [List.cons_append, packGo, ih, List.length_cons]; congr 1; omega
theorem pack_snoc (bs : List Int) (b : Int) : pack (bs ++ [b]) = packStep (pack bs) bs.length b := by
 simp only [pack, packGo_append, packGo, Nat.zero_add]
theorem pack_length (bs : List Int) : (pack bs).length = (bs.length + 7) / 8 := by
 have : ∀ (bs : List Int) (ys : List Int) (n : Nat), ys.length = (n + 7) / 8 → (packGo ys n bs).length = (n + bs.length + 7) / 8 := by
  intro bs
  induction bs with
  | nil => intro ys n h; simpa [packGo] using h
  | cons b bs ih =>
   intro ys n h
   simp only [packGo]
   rw [ih]
   ·simp only [List.length_cons]; congr 1; omega
   ·simp only [packStep, List.length_set]
    split
    ·simp; omega
    ·omega
 have h := this bs [] 0 rfl
 rw [pack, h]
 congr 1; omega
def WrAt (w : World) (base A : Nat) (T : TypeId) (x : Value) (bs : List Int) (g : Option Nat) : Prop :=
 ∃ v, w.heap[A]? = some (.cells #[v, .int .i64 bs.length, x] T (0, 0)) ∧ w.ownsRow base 5 1 v (pack bs).length ((pack bs).map (Value.int .u8)) ∧ v.ownBlock = g ∧ g ≠ some A ∧ base ≤ w.heap.size
theorem WrAt.keep {w w' : World} {base A : Nat} {T : TypeId} {x : Value} {bs : List Int} {g : Option Nat} {S : Nat → Prop} (h : WrAt w base A T x bs g) (f : Fm S w w') (hA : ¬ S A) (hg : ∀ i, g = some i → ¬ S i) : WrAt w' base A T x bs g := by
 obtain ⟨v, h1, h2, h3, h4, h5⟩ := h
 exact ⟨v, f.keep h1 hA, f.owns h2 fun i hi => hg i (h3 ▸ hi), h3, h4, Nat.le_trans h5 f.size⟩
theorem WrAt.cellsG {w : World} {base A : Nat} {T : TypeId} {x : Value} {bs : List Int} {g : Option Nat} (h : WrAt w base A T x bs g) {i : Nat} (hi : g = some i) : base ≤ i ∧ ∃ c t, w.heap[i]? = some (.cells c t (0, 0)) := by
 obtain ⟨v, h1, h2, h3, h4, h5⟩ := h
 obtain ⟨hb, cur, hc⟩ := own_block h2 (h3.trans hi)
 exact ⟨hb, cur, _, hc⟩
end Go.Proofs.YtipikchkbmgloaaGreatDoor
namespace Go.Proofs.YtipikchkbmgloaaGreatDoor
set_option linter.unusedSimpArgs false
set_option linter.unusedVariables false
open Go Go.RowKit VC
variable {w : World} {base A : Nat} {T : TypeId} {x : Value} {bs : List Int} {g : Option Nat}
set_option maxHeartbeats 1000000 in
set_option maxRecDepth 20000 in
theorem put21_c (n : Int) (k : Nat) (hk : k ≤ 64) (h : WrAt w base A T x bs g) (hlen : bs.length + k ≤ 1125899906842000) :
  callV Tryz.prog 71 [.pointer (some ⟨A, 0, none⟩), .int .u64 n, .int .i64 k] w fun v w' => v = .tuple #[] ∧ ∃ g', WrAt w' base A T x (bs ++ bitsOf n k) g' ∧ (g' = g ∨ ∃ b, g' = some b ∧ w.heap.size ≤ b) ∧ Fm (fun i => i = A ∨ g = some i) w w' := by
 have hAlt : A < w.heap.size := by obtain ⟨v, h1, _⟩ := h; exact lt_of_blk h1
 have hglt : ∀ i, g = some i → i < w.heap.size := fun i hi => by obtain ⟨_, c, t, hc⟩ := h.cellsG hi; exact lt_of_blk hc
 refine vc71 ⟨A, 0, none⟩ n k w _ ?_
 refine allocC_of fun w1 hb1 hs1 hf1 => ?_
 refine vc83 k w1 _ ?_
 simp only [vq, eqV, nilV]
 rw [show max 0 (min (k : Int) 64) = k by omega]
 refine vc82 n k w1 _ ?_
 refine allocC_of fun w2 hb2 hs2 hf2 => ?_
 refine allocC_of fun w3 hb3 hs3 hf3 => ?_
 simp only [vq, eqV, nilV]
 refine rd_of rfl ?_
 refine rd_of rfl ?_
 have hf13 := (hf1.trans hf2).trans hf3
 have hb3' := hf3.keep hb2 id
 have hbx := (hf2.trans hf3).keep hb1 id
 refine ⟨ent95, Int, fun y _ => .int .u8 y, KpB fun i => i = w2.heap.size ∨ i = w1.heap.size, fun ys => ys = bitsOf n k, fun ys => ys <+: bitsOf n k, k,
  fun pre W => (∃ g', WrAt W base A T x (bs ++ pre) g' ∧ (g' = g ∨ ∃ b, g' = some b ∧ w.heap.size ≤ b) ∧ (∀ i, g' = some i → i < w.heap.size ∨ w3.heap.size ≤ i) ∧ w3.heap.size ≤ W.heap.size) ∧ W.heap[w.heap.size]? = some (.cells #[.pointer (some ⟨A, 0, none⟩)] 141 (0, 0)) ∧ Fm (fun i => i = A ∨ g = some i) w W,
  fun _ _ _ => False, seq59 hb3 hb3' hk, KpB.t, KpB.b (by rintro i (rfl | rfl) <;> omega), ?_, fun _ _ _ _ _ h _ _ => h, ?_, ?_, ?_, fun _ _ _ _ _ h _ => h.elim, fun _ h => by cases h⟩
 ·rintro pre W W' row ⟨⟨g', h1, h2, h3, h6⟩, h4, h5⟩ hg hr
  have hfm := row_fm hg
  have hA' : ¬ row = some A := by obtain ⟨v, hv, _⟩ := h1; exact row_ncell hr hv
  refine ⟨⟨g', h1.keep hfm hA' fun i hi => ?_, h2, h3, Nat.le_trans h6 hfm.size⟩, hfm.keep h4 (row_ncell hr h4), h5.trans' hfm fun i hi e => ?_⟩
  ·obtain ⟨_, c, t, hc⟩ := h1.cellsG hi
   exact row_ncell hr hc
  ·have := (hr i e).1; omega
 ·refine ⟨⟨g, ?_, .inl rfl, fun i hi => .inl (hglt i hi), Nat.le_refl _⟩, hbx, hf13.none⟩
  rw [List.append_nil]
  exact h.keep hf13 id fun _ _ y => y
 ·rintro pre y W ⟨⟨g', hW, hg', hgb0, hW3⟩, hbox, hF⟩ hlt
  have hgb : ∀ i, g' = some i → i ≠ w.heap.size := fun i hi => by have := hgb0 i hi; omega
  obtain ⟨v0, hA, hown, hvg, hgA, hbase⟩ := hW
  have hWlt := lt_of_blk hbox
  have hAx : A ≠ w.heap.size := by omega
  have hm : (bs ++ pre).length ≤ 1125899906842000 := by simp; omega
  obtain ⟨m, hmm⟩ : ∃ m, m = (bs ++ pre).length := ⟨_, rfl⟩
  rw [← hmm] at hA hm
  have hpl := pack_length (bs ++ pre)
  rw [← hmm] at hpl
  have htm : Int.tmod (m : Int) 8 = ((m % 8 : Nat) : Int) := by rw [Int.tmod_eq_emod_of_nonneg (by omega)]; omega
  have htd : Int.tdiv (m : Int) 8 = ((m / 8 : Nat) : Int) := by rw [Int.tdiv_eq_ediv_of_nonneg (by omega)]; omega
  obtain ⟨p0, cp0, rfl, -⟩ := own_read hown
  refine ⟨fun _ W' => ∃ v1 g1, W'.heap[A]? = some (.cells #[v1, .int .i64 m, x] T (0, 0)) ∧ W'.ownsRow base 5 1 v1 (m / 8 + 1) ((if m % 8 = 0 then pack (bs ++ pre) ++ [0] else pack (bs ++ pre)).map (Value.int .u8)) ∧ v1.ownBlock = g1 ∧ g1 ≠ some A ∧
   (g1 = g' ∨ ∃ b, g1 = some b ∧ W.heap.size ≤ b) ∧ Fm (fun i => i = A ∨ g' = some i) W W', ?_, ?_⟩
  ·refine rd_of (v := .pointer (some ⟨A, 0, none⟩)) (cellOf hbox rfl) ?_
   simp only [vq, eqV, nilV]
   refine rd_of (v := .int .i64 m) (cellOf hA rfl) ?_
   simp only [vq, eqV, nilV, htm]
   refine br_dec (fun hm8 => ?_) (fun hm8 => ?_)
   ·have hm8' : m % 8 = 0 := by omega
    have hbox' : W.drew.heap[w.heap.size]? = some (.cells #[.pointer (some ⟨A, 0, none⟩)] 141 (0, 0)) := hbox
    have hA' : W.drew.heap[A]? = _ := hA
    refine ⟨fun w' => w'.heap[w.heap.size]? = some (.cells #[.pointer (some ⟨A, 0, none⟩)] 141 (0, 0)) ∧ w'.heap[A]? = some (.cells #[.slice p0 (pack (bs ++ pre)).length cp0, .int .i64 m, x] T (0, 0)), ⟨hbox', hA'⟩, ?_⟩
    have bx : ∀ {K : Value → Prop} (w' : World), w'.heap[w.heap.size]? = some (.cells #[.pointer (some ⟨A, 0, none⟩)] 141 (0, 0)) → K (.pointer (some ⟨A, 0, none⟩)) → rd (w'.cell? ⟨w.heap.size, 0, none⟩) K := fun w' hw k => rd_of (cellOf hw rfl) k
    refine bx _ hbox' ⟨fun w' hw => bx w' hw.1 rfl, ?_⟩
    simp only [vq, eqV, nilV]
    refine bx _ hbox' ⟨fun w' hw => bx w' hw.1 rfl, ?_⟩
    simp only [vq, eqV, nilV]
    have hq : ∀ (w50 : World) (v50 : Value), w50.ownsRow base 5 1 v50 ((pack (bs ++ pre)).length + 1) ((pack (bs ++ pre)).map (Value.int .u8) ++ [.int .u8 0]) → Fm (fun i => g' = some i) W w50 → (v50.ownBlock = g' ∨ ∃ b, v50.ownBlock = some b ∧ W.heap.size ≤ b) →
      isSl v50 fun o51 n52 n53 => (w50.heap[w.heap.size]? = some (.cells #[.pointer (some ⟨A, 0, none⟩)] 141 (0, 0)) ∧ w50.heap[A]? = some (.cells #[.slice p0 (pack (bs ++ pre)).length cp0, .int .i64 m, x] T (0, 0))) ∧ stC w50 ⟨A, 0, none⟩ [.slice o51 n52 n53] fun w62 =>
       ∃ v1 g1, w62.heap[A]? = some (.cells #[v1, .int .i64 m, x] T (0, 0)) ∧ w62.ownsRow base 5 1 v1 (m / 8 + 1) ((if m % 8 = 0 then pack (bs ++ pre) ++ [0] else pack (bs ++ pre)).map (Value.int .u8)) ∧ v1.ownBlock = g1 ∧ g1 ≠ some A ∧
        (g1 = g' ∨ ∃ b, g1 = some b ∧ W.heap.size ≤ b) ∧ Fm (fun i => i = A ∨ g' = some i) W w62 := by
     intro w50 v50 hr50 hf50 hg50
     obtain ⟨p5, cp5, rfl, -⟩ := own_read hr50
     have hne5 : (Value.slice p5 ((pack (bs ++ pre)).length + 1) cp5).ownBlock ≠ some A := by
      rcases hg50 with e | ⟨b, e, hb⟩
      ·rw [e]; exact hgA
      ·rw [e]; intro h; cases h; omega
     have hA50 := hf50.keep hA hgA
     have hbox50 := hf50.keep hbox (fun e => hgb _ e rfl)
     refine ⟨⟨hbox50, hA50⟩, stC_one hA50 (by simp) rfl fun w62 hA62 hf62 => ?_⟩
     refine ⟨_, _, hA62, ?_, rfl, hne5, hg50, ?_⟩
     ·rw [if_pos hm8', show m / 8 + 1 = (pack (bs ++ pre)).length + 1 by omega, List.map_append]
      exact hf62.owns hr50 fun i hi e => hne5 (e ▸ hi)
     ·exact (hf50.mono fun i _ e => .inr e).trans (hf62.mono fun i _ e => .inl e)
    refine rd_of (v := .slice p0 (pack (bs ++ pre)).length cp0) (cellOf hA' rfl) ⟨fun w' hw => rd_of (cellOf hw.2 rfl) rfl, ?_⟩
    simp only [vq, eqV, nilV]
    refine build_1 (by rw [row39]) row5 rfl rfl fun w45 hb45 hs45 hf45 => ?_
    have hf45' : Fm none' W w45 := (Fm.drew W).trans hf45
    have hs45' : W.heap.size ≤ w45.heap.size := hf45'.size
    refine ⟨⟨hf45'.keep hbox id, hf45'.keep hA id⟩, ?_⟩
    refine append_at (news := [.int .u8 0]) (by rw [row39]) row5 rfl (hf45'.owns hown fun _ _ y => y) rfl (fun j u hj => ?_) (by simp [Value.oneCell']) (Nat.le_trans hbase hs45') (by simp only [maxLen]; omega) (by omega) fun v50 w50 hr50 hf50 hbk => ?_
    ·cases j with
     | zero => simp at hj; subst hj; rw [addr_add]; exact cellOf hb45 rfl
     | succ j => simp at hj
    ·exact hq w50 v50 hr50 (hf45'.none.trans (hf50.mono fun i _ e => hvg ▸ e)) (hbk.imp (fun e => e.trans hvg) fun e => ⟨_, e, hs45'⟩)
   ·refine ⟨_, g', hA, ?_, hvg, hgA, .inl rfl, Fm.refl _ _⟩
    have hm8' : ¬ m % 8 = 0 := by omega
    rw [if_neg hm8', show m / 8 + 1 = (pack (bs ++ pre)).length by omega]
    exact hown
  rintro u87 w88 ⟨v1, g1, hA1, hown1, hv1, hg1A, hg1, hF1⟩
  have hbox1 := hF1.keep hbox (by rintro (e | e); omega; exact hgb _ e rfl)
  obtain ⟨ys, hys⟩ : ∃ ys, ys = (if m % 8 = 0 then pack (bs ++ pre) ++ [0] else pack (bs ++ pre)) := ⟨_, rfl⟩
  rw [← hys] at hown1
  have hyl : ys.length = m / 8 + 1 := by
   rw [hys]; split
   ·simp; omega
   ·omega
  obtain ⟨p1, cp1, rfl, hread1⟩ := own_read hown1
  obtain ⟨gg, rfl, hbg, hgb1, hcell⟩ := hread1 (m / 8) (.int .u8 (ys.getD (m / 8) 0)) (by
   rw [List.getElem?_map, List.getElem?_eq_getElem (by omega), List.getD_eq_getElem?_getD, List.getElem?_eq_getElem (by omega)]; rfl)
  have hg1' : g1 = some gg := hv1.symm.trans hgb1
  have hggA : gg ≠ A := fun e => hg1A (by rw [hg1', e])
  have hggW : g' = some gg ∨ W.heap.size ≤ gg := hg1.imp (fun e => e.symm.trans hg1') fun ⟨b, e, hb⟩ => by rw [hg1'] at e; cases e; exact hb
  have hggb : gg ≠ w.heap.size := by
   rcases hggW with e | e
   ·exact hgb _ e
   ·omega
  rw [addr_add, Nat.zero_add] at hcell
  have bx : ∀ {K : Value → Prop} (w' : World), w'.heap[w.heap.size]? = some (.cells #[.pointer (some ⟨A, 0, none⟩)] 141 (0, 0)) → K (.pointer (some ⟨A, 0, none⟩)) → rd (w'.cell? ⟨w.heap.size, 0, none⟩) K := fun w' hw k => rd_of (cellOf hw rfl) k
  have hbox1' : w88.drew.heap[w.heap.size]? = some (.cells #[.pointer (some ⟨A, 0, none⟩)] 141 (0, 0)) := hbox1
  have hA1' : w88.drew.heap[A]? = some (.cells #[.slice (some ⟨gg, 0, none⟩) (m / 8 + 1) cp1, .int .i64 m, x] T (0, 0)) := hA1
  have hcell' : w88.drew.cell? ⟨gg, m / 8, none⟩ = _ := hcell
  refine ⟨fun w' => w' = w88.drew, rfl, ?_⟩
  have e1 : w88.drew.cell? ⟨w.heap.size, 0, none⟩ = some (.pointer (some ⟨A, 0, none⟩)) := cellOf hbox1' rfl
  have e2 : w88.drew.cell? ⟨A, 0, none⟩ = some (.slice (some ⟨gg, 0, none⟩) (m / 8 + 1) cp1) := cellOf hA1' rfl
  have e3 : w88.drew.cell? ⟨A, 1, none⟩ = some (.int .i64 m) := cellOf hA1' rfl
  have e4 : IntKind.i64.wrap ((m / 8 : Nat) : Int) = ((m / 8 : Nat) : Int) := w64 (by omega)
  have e5 : IntKind.i64.wrap ((7 : Int) - ((m % 8 : Nat) : Int)) = ((7 - m % 8 : Nat) : Int) := (w64 (by omega)).trans (by omega)
  simp only [forall_eq, e1, e2, e3, e4, e5, htd, htm, hcell', Int.toNat_natCast, addr_add, Nat.zero_add, vq, eqV, nilV]
  refine ⟨by omega, by omega, by omega, ?_⟩
  rw [show min (7 - m % 8) IntKind.u8.bits = 7 - m % 8 from Nat.min_eq_left (by have : IntKind.u8.bits = 8 := rfl; omega)]
  have hown1d := (Fm.drew w88).owns hown1 fun _ _ y => y
  obtain ⟨g2, c2, hg2, hst⟩ := own_set (KK := _) hown1d (j := m / 8) (x := .int .u8 (orI IntKind.u8 (ys.getD (m / 8) 0) (IntKind.u8.wrap (y * 2 ^ (7 - m % 8))))) (by omega) rfl
  cases hg2
  rw [addr_add, Nat.zero_add] at hst
  refine hst fun w173 hown173 hf173 => ?_
  have hbox173 := hf173.keep hbox1' (fun e => hggb e.symm)
  have hA173 := hf173.keep hA1' (fun e => hggA e.symm)
  refine bx _ hbox173 ?_
  simp only [vq, eqV, nilV, addr_add, Nat.zero_add]
  refine rd_of (v := .int .i64 m) (cellOf hA173 rfl) ?_
  simp only [vq, eqV, nilV, addr_add, Nat.zero_add]
  rw [w64 (by omega)]
  refine stC_one hA173 (by simp) rfl fun w182 hA182 hf182 => ?_
  have hgA2 : some gg ≠ some A := fun e => hggA (Option.some.inj e)
  have hFall : Fm (fun i => i = A ∨ g' = some i) W w182 := by
   refine ((hF1.trans (Fm.drew w88).none).trans' hf173 ?_).trans' hf182 ?_
   ·rintro i hi rfl
    rcases hggW with e | e
    ·exact .inr e
    ·omega
   ·rintro i hi rfl; exact .inl rfl
  have hpk : (pack (bs ++ (pre ++ [y]))) = ys.set (m / 8) (orI .u8 (ys.getD (m / 8) 0) (IntKind.u8.wrap (y * 2 ^ (7 - m % 8)))) := by
   rw [← List.append_assoc, pack_snoc, ← hmm, hys]; rfl
  refine ⟨keeps_of hFall ?_, KpB.fm hFall ?_, ⟨some gg, ⟨.slice (some ⟨gg, 0, none⟩) (m / 8 + 1) cp1, ?_, ?_, rfl, hgA2, ?_⟩, ?_, ?_, ?_⟩, ?_, ?_⟩
  ·rintro i (rfl | e)
   ·exact ⟨_, _, _, hA⟩
   ·obtain ⟨_, cur, hc⟩ := own_block hown (hvg.trans e)
    exact ⟨_, _, _, hc⟩
  ·rintro i hi (rfl | e)
   ·omega
   ·have := hgb0 i e; omega
  ·rw [show (bs ++ (pre ++ [y])).length = m + 1 by rw [hmm]; simp; omega]
   exact hA182
  ·rw [hpk, List.length_set, hyl, List.map_set]
   exact hf182.owns hown173 fun i hi e => hgA2 (hi.trans (by rw [e]))
  ·exact Nat.le_trans hbase hFall.size
  ·rcases hggW with e | e
   ·rw [← e]; exact hg'
   ·exact .inr ⟨gg, rfl, by omega⟩
  ·rintro i e
   cases e
   rcases hggW with e | e
   ·exact hgb0 _ e
   ·exact .inr (by omega)
  ·exact Nat.le_trans hW3 hFall.size
  ·exact hf182.keep hbox173 (by omega)
  ·exact hF.trans' hFall (by
    rintro i hi (rfl | e)
    ·exact .inl rfl
    ·rcases hg' with e' | ⟨b, e', hb⟩
     ·exact .inr (e' ▸ e)
     ·rw [e'] at e; cases e; omega)
 ·rintro D ys W hD rfl ⟨⟨g', h1, h2, h3, _⟩, h4, h5⟩ hK
  refine leave_1 hK ?_
  intro W' hf
  refine ⟨g', h1.keep hf ?_ ?_, h2, h5.trans' hf (by rintro i hi rfl; omega)⟩
  ·rintro rfl
   omega
  ·rintro i hi rfl
   obtain ⟨_, c, t, hc⟩ := h1.cellsG hi
   rw [hc] at hK; cases hK
end Go.Proofs.YtipikchkbmgloaaGreatDoor
namespace Go.Proofs.YtipikchkbmgloaaGreatDoor
set_option linter.unusedSimpArgs false
set_option linter.unusedVariables false
open Go Go.RowKit VC
def WrP (base A : Nat) (T : TypeId) (wr : Bool) (bs : List Int) (g : Option Nat) (w : World) (bits : List Int) (bad : Bool) (v : Value) (w' : World) : Prop :=
 v = .tuple #[] ∧ ∃ g', WrAt w' base A T (.bool (wr || bad)) (bs ++ bits) g' ∧ (g' = g ∨ ∃ b, g' = some b ∧ w.heap.size ≤ b) ∧ Fm (fun i => i = A ∨ g = some i) w w'
variable {w : World} {base A : Nat} {T : TypeId} {wr : Bool} {bs : List Int} {g : Option Nat}
theorem WrAt.lt {x : Value} (h : WrAt w base A T x bs g) : A < w.heap.size ∧ (∀ i, g = some i → i < w.heap.size) :=
 ⟨by obtain ⟨v, h1, _⟩ := h; exact lt_of_blk h1, fun i hi => by obtain ⟨_, c, t, hc⟩ := h.cellsG hi; exact lt_of_blk hc⟩
theorem apart_of {g' : Option Nat} {i n : Nat} (hi : i < n) (h : g ≠ some i) (hg : g' = g ∨ ∃ b, g' = some b ∧ n ≤ b) : g' ≠ some i := by
 rcases hg with e | ⟨b, e, hb⟩
 ·rw [e]; exact h
 ·rw [e]; intro h; cases h; omega
theorem fm_trans {w1 w2 : World} {g1 : Option Nat} (h1 : Fm (fun i => i = A ∨ g = some i) w w1) (hg : g1 = g ∨ ∃ b, g1 = some b ∧ w.heap.size ≤ b) (h2 : Fm (fun i => i = A ∨ g1 = some i) w1 w2) : Fm (fun i => i = A ∨ g = some i) w w2 :=
 h1.trans' h2 fun i hi e => by
  rcases e with e | e
  ·exact .inl e
  ·rcases hg with e' | ⟨b, e', hb⟩
   ·exact .inr (e' ▸ e)
   ·rw [e'] at e; cases e; omega
theorem grow_trans {g1 g2 : Option Nat} {n n1 : Nat} (h : n ≤ n1) (h1 : g1 = g ∨ ∃ b, g1 = some b ∧ n ≤ b) (h2 : g2 = g1 ∨ ∃ b, g2 = some b ∧ n1 ≤ b) : g2 = g ∨ ∃ b, g2 = some b ∧ n ≤ b := by
 rcases h2 with e | ⟨b, e, hb⟩
 ·rw [e]; exact h1
 ·exact .inr ⟨b, e, by omega⟩
theorem within83_c (b : Bool) (h : WrAt w base A T (.bool wr) bs g) : callV Tryz.prog 118 [.pointer (some ⟨A, 0, none⟩), .bool b] w (WrP base A T wr bs g w [] (!b)) := by
 refine vc118 ⟨A, 0, none⟩ b w _ ?_
 obtain ⟨v, h1, h2, h3, h4, h5⟩ := h
 simp only [addr_add, Nat.zero_add]
 refine rd_of (v := .bool wr) (cellOf h1 rfl) ?_
 simp only [vq, eqV, nilV]
 have fin : ∀ (b' : Bool), b' = (wr || !b) → stC w ⟨A, 2, none⟩ [.bool b'] fun w2 => WrP base A T wr bs g w [] (!b) (.tuple #[]) w2 := by
  intro b' hb'
  refine stC_one h1 (by simp) rfl fun w2 hA2 hf2 => ⟨rfl, g, ?_, .inl rfl, hf2.mono fun i _ e => .inl e⟩
  rw [List.append_nil, ← hb']
  exact ⟨v, hA2, hf2.owns h2 fun i hi e => h4 (by rw [← h3, hi, e]), h3, h4, Nat.le_trans h5 hf2.size⟩
 cases wr with
 | true => exact fin _ rfl
 | false => exact fin _ rfl
theorem whole82_c {b : Addr} {n : Int} {k : Nat} (hk : k ≤ 64) (h : WrAt w base A T (.bool wr) bs g) (hb : w.cell? b = some (.int .u64 n)) (hbA : b.block ≠ A) (hbg : g ≠ some b.block) (hlen : bs.length + k ≤ 1125899906842000) :
  callV Tryz.prog 117 [.pointer (some ⟨A, 0, none⟩), .pointer (some b), .int .i64 k] w (WrP base A T wr bs g w (bitsOf n k) (!decide (n.fdiv (2 ^ (min k 64)) = 0))) := by
 refine vc117 ⟨A, 0, none⟩ b k w _ (rd_of hb ?_)
 simp only [vq, eqV, nilV]
 rw [show (IntKind.bits .u64) = 64 from rfl]
 refine (within83_c _ h).mono ?_
 rintro _ w5 ⟨rfl, g1, hw1, hg1, hf1⟩
 have hb1 : w5.drew.cell? b = some (.int .u64 n) := (Fm.drew w5).cell (hf1.cell hb (by rintro (e | e); exact hbA e; exact hbg e)) id
 have hw1' := hw1.keep (Fm.drew w5) id fun _ _ y => y
 refine ⟨fun w' => w'.cell? b = some (.int .u64 n), hb1, ?_⟩
 refine rd_of hb1 ⟨fun w' hw => rd_of hw rfl, ?_⟩
 simp only [vq, eqV, nilV]
 rw [List.append_nil] at hw1'
 have hbl : b.block < w.heap.size := by
  unfold World.cell? at hb
  cases ho : w.heap[b.block]? with
  | none => rw [ho] at hb; simp at hb
  | some o => exact lt_of_blk ho
 have hbg1 := apart_of hbl hbg hg1
 refine (put21_c n k hk hw1' hlen).mono ?_
 rintro _ w25 ⟨rfl, g2, hw2, hg2, hf2⟩
 refine ⟨rfl, g2, hw2, grow_trans (by exact hf1.size) hg1 hg2, fm_trans (hf1.trans (Fm.drew w5).none) hg1 hf2⟩
theorem signed81_c {b : Addr} {n : Int} {k : Nat} (hk : k ≤ 64) (h : WrAt w base A T (.bool wr) bs g) (hb : w.cell? b = some (.int .i64 n)) (hbA : b.block ≠ A) (hbg : g ≠ some b.block) (hlen : bs.length + k ≤ 1125899906842000) :
  callV Tryz.prog 116 [.pointer (some ⟨A, 0, none⟩), .pointer (some b), .int .i64 k] w (WrP base A T wr bs g w (bitsOf (IntKind.u64.wrap n) k) (!decide ((IntKind.i64.wrap (n * 2 ^ (64 - k))).fdiv (2 ^ (64 - k)) = n))) := by
 refine vc116 ⟨A, 0, none⟩ b k w _ ?_
 have hb0 : w.drew.cell? b = some (.int .i64 n) := (Fm.drew w).cell hb id
 have hw0 := h.keep (Fm.drew w) id fun _ _ y => y
 have hbl : b.block < w.heap.size := by
  unfold World.cell? at hb
  cases ho : w.heap[b.block]? with
  | none => rw [ho] at hb; simp at hb
  | some o => exact lt_of_blk ho
 rw [w64 (by omega), show ((64 : Int) - (k : Int)) = ((64 - k : Nat) : Int) by omega]
 refine ⟨fun w' => w'.cell? b = some (.int .i64 n), hb0, ?_⟩
 simp only [vq, eqV, nilV]
 refine rd_of hb0 ⟨fun w' hw => rd_of hw rfl, ?_⟩
 simp only [vq, eqV, nilV]
 rw [show min (64 - k) IntKind.i64.bits = 64 - k from Nat.min_eq_left (by have : IntKind.i64.bits = 64 := rfl; omega)]
 refine rd_of hb0 ⟨fun w' hw => rd_of hw rfl, ?_⟩
 simp only [vq, eqV, nilV]
 refine (within83_c _ hw0).mono ?_
 rintro _ w5 ⟨rfl, g1, hw1, hg1, hf1⟩
 have hF1 : Fm (fun i => i = A ∨ g = some i) w w5 := (Fm.drew w).none.trans hf1
 have hb1 : w5.drew.cell? b = some (.int .i64 n) := (Fm.drew w5).cell (hF1.cell hb (by rintro (e | e); exact hbA e; exact hbg e)) id
 have hb1' : w5.cell? b = some (.int .i64 n) := hb1
 have hw1' := hw1.keep (Fm.drew w5) id fun _ _ y => y
 refine ⟨hb1', fun w' => w'.cell? b = some (.int .i64 n), hb1, ?_⟩
 simp only [vq, eqV, nilV]
 refine rd_of hb1 ⟨fun w' hw => rd_of hw rfl, ?_⟩
 simp only [vq, eqV, nilV]
 rw [List.append_nil] at hw1'
 have hbg1 := apart_of hbl hbg hg1
 refine vc119 ⟨A, 0, none⟩ n k w5.drew _ ?_
 refine (put21_c (IntKind.u64.wrap n) k hk hw1' hlen).mono ?_
 rintro _ w25 ⟨rfl, g2, hw2, hg2, hf2⟩
 refine ⟨rfl, g2, hw2, grow_trans (by exact hF1.size) hg1 hg2, fm_trans (hF1.trans (Fm.drew w5).none) hg1 hf2⟩
end Go.Proofs.YtipikchkbmgloaaGreatDoor
namespace Go.Proofs.YtipikchkbmgloaaGreatDoor
set_option linter.unusedSimpArgs false
set_option linter.unusedVariables false
open Go Go.RowKit VC
theorem meth_whole {v : Value} {w : World} {K : FuncId → Value → Prop} (k : K 117 v) : methV Tryz.prog 80 v "embrasure/message.whole" w K := ⟨117, v, by kernel_rfl, k⟩
theorem meth_signed {v : Value} {w : World} {K : FuncId → Value → Prop} (k : K 116 v) : methV Tryz.prog 80 v "embrasure/message.signed" w K := ⟨116, v, by kernel_rfl, k⟩
theorem meth_within {v : Value} {w : World} {K : FuncId → Value → Prop} (k : K 118 v) : methV Tryz.prog 80 v "embrasure/message.within" w K := ⟨118, v, by kernel_rfl, k⟩
theorem meth_bytes {v : Value} {w : World} {K : FuncId → Value → Prop} (k : K 115 v) : methV Tryz.prog 80 v "embrasure/message.bytes" w K := ⟨115, v, by kernel_rfl, k⟩
theorem nila_within {a : Addr} {w : World} {K : Prop} (k : K) : nilA Tryz.prog 80 (.pointer (some a)) "embrasure/message.within" w K := ⟨by kernel_rfl, k⟩
theorem Fm.unturn {S : Nat → Prop} {w w' : World} {B : Nat} (h : Fm (fun i => S i ∨ i = B) w w') (hB : w'.heap[B]? = w.heap[B]?) : Fm S w w' :=
 ⟨h.os, h.tape, h.output, h.size, fun i hi hn => by
  by_cases e : i = B
  ·subst e; exact hB
  ·exact h.blk i hi fun x => x.elim hn e⟩
theorem set_same {C : Array Value} {i : Nat} {v : Value} (h : C[i]? = some v) : C.setIfInBounds i v = C := by
 obtain ⟨hi, hv⟩ := Array.getElem?_eq_some_iff.1 h
 apply Array.ext'
 rw [Array.toList_setIfInBounds]
 refine List.ext_getElem? fun j => ?_
 rw [List.getElem?_set]
 split
 ·rename_i e; subst e
  rw [if_pos (by simpa using hi)]
  simpa using h.symm
 ·rfl
variable {w : World} {base A : Nat} {T : TypeId} {wr : Bool} {bs : List Int} {g : Option Nat}
abbrev wv (A : Nat) : Value := .iface 80 (.pointer (some ⟨A, 0, none⟩))
theorem num30_c {B i tB : Nat} {C : Array Value} {x : Int} {k : Nat} (hk : k ≤ 64) (h : WrAt w base A T (.bool wr) bs g) (hB : w.heap[B]? = some (.cells C tB (0, 0))) (hi : C[i]? = some (.int .i64 x)) (hBA : B ≠ A) (hBg : g ≠ some B)
  (hx : IntKind.i64.wrap (IntKind.u64.wrap x) = x) (hlen : bs.length + k ≤ 1125899906842000) :
  callV Tryz.prog 47 [wv A, .pointer (some ⟨B, i, none⟩), .int .i64 k] w (WrP base A T wr bs g w (bitsOf (IntKind.u64.wrap x) k) (!decide ((IntKind.u64.wrap x).fdiv (2 ^ (min k 64)) = 0))) := by
 refine vc47 _ ⟨B, i, none⟩ k w _ (rd_of (v := .int .i64 x) (cellOf hB hi) ?_)
 simp only [vq, eqV, nilV]
 refine allocC_of fun w3 hb3 hs3 hf3 => ?_
 refine stC_one hb3 (by simp) rfl fun w4 hb4 hf4 => ?_
 have hF4 : Fm none' w w4 := hf3.trans' hf4 (by rintro i hi rfl; omega)
 have hl := h.lt
 have hw4 := h.keep hF4 id fun _ _ y => y
 have hs4 : w3.heap.size ≤ w4.heap.size := hf4.size
 refine meth_whole ?_
 refine (whole82_c hk hw4 (cellOf hb4 rfl) (by show w.heap.size ≠ A; omega) (by intro e; have := hl.2 _ e; exact absurd this (Nat.lt_irrefl _)) hlen).mono ?_
 rintro _ w10 ⟨rfl, g1, hw1, hg1, hf1⟩
 have hb10 := hf1.keep hb4 (by rintro (e | e); omega; have := hl.2 _ e; omega)
 refine rd_of (v := .int .u64 (IntKind.u64.wrap x)) (cellOf hb10 rfl) ?_
 simp only [vq, eqV, nilV, hx]
 have hB10 := hf1.keep (hF4.keep hB id) (by rintro (e | e); exact hBA e; exact hBg e)
 have hBl := lt_of_blk hB
 have hg1' : g1 = g ∨ ∃ b, g1 = some b ∧ w.heap.size ≤ b := grow_trans hF4.size (.inl rfl) hg1
 refine stC_one hB10 (Array.getElem?_eq_some_iff.1 hi).1 rfl fun w13 hB13 hf13 => ?_
 rw [set_same hi] at hB13
 have hF : Fm (fun i => i = A ∨ g = some i) w w13 := Fm.unturn (B := B) (((hF4.none.trans hf1).mono fun i _ e => .inl e).trans (hf13.mono fun i _ e => .inr e)) (hB13.trans hB.symm)
 exact ⟨rfl, g1, hw1.keep hf13 (fun e => hBA e.symm) (fun j hj e => apart_of hBl hBg hg1' (by rw [hj, e])), hg1', hF⟩
theorem num41_c {B i tB : Nat} {C : Array Value} {x : Int} {k : Nat} (hk : k ≤ 64) (h : WrAt w base A T (.bool wr) bs g) (hB : w.heap[B]? = some (.cells C tB (0, 0))) (hi : C[i]? = some (.int .u16 x)) (hBA : B ≠ A) (hBg : g ≠ some B)
  (hx : IntKind.u16.wrap (IntKind.u64.wrap x) = x) (hlen : bs.length + k ≤ 1125899906842000) :
  callV Tryz.prog 46 [wv A, .pointer (some ⟨B, i, none⟩), .int .i64 k] w (WrP base A T wr bs g w (bitsOf (IntKind.u64.wrap x) k) (!decide ((IntKind.u64.wrap x).fdiv (2 ^ (min k 64)) = 0))) := by
 refine vc46 _ ⟨B, i, none⟩ k w _ (rd_of (v := .int .u16 x) (cellOf hB hi) ?_)
 simp only [vq, eqV, nilV]
 refine allocC_of fun w3 hb3 hs3 hf3 => ?_
 refine stC_one hb3 (by simp) rfl fun w4 hb4 hf4 => ?_
 have hF4 : Fm none' w w4 := hf3.trans' hf4 (by rintro i hi rfl; omega)
 have hl := h.lt
 have hw4 := h.keep hF4 id fun _ _ y => y
 have hs4 : w3.heap.size ≤ w4.heap.size := hf4.size
 refine meth_whole ?_
 refine (whole82_c hk hw4 (cellOf hb4 rfl) (by show w.heap.size ≠ A; omega) (by intro e; have := hl.2 _ e; exact absurd this (Nat.lt_irrefl _)) hlen).mono ?_
 rintro _ w10 ⟨rfl, g1, hw1, hg1, hf1⟩
 have hb10 := hf1.keep hb4 (by rintro (e | e); omega; have := hl.2 _ e; omega)
 refine rd_of (v := .int .u64 (IntKind.u64.wrap x)) (cellOf hb10 rfl) ?_
 simp only [vq, eqV, nilV, hx]
 have hB10 := hf1.keep (hF4.keep hB id) (by rintro (e | e); exact hBA e; exact hBg e)
 have hBl := lt_of_blk hB
 have hg1' : g1 = g ∨ ∃ b, g1 = some b ∧ w.heap.size ≤ b := grow_trans hF4.size (.inl rfl) hg1
 refine stC_one hB10 (Array.getElem?_eq_some_iff.1 hi).1 rfl fun w13 hB13 hf13 => ?_
 rw [set_same hi] at hB13
 have hF : Fm (fun i => i = A ∨ g = some i) w w13 := Fm.unturn (B := B) (((hF4.none.trans hf1).mono fun i _ e => .inl e).trans (hf13.mono fun i _ e => .inr e)) (hB13.trans hB.symm)
 exact ⟨rfl, g1, hw1.keep hf13 (fun e => hBA e.symm) (fun j hj e => apart_of hBl hBg hg1' (by rw [hj, e])), hg1', hF⟩
theorem num44_c {B i tB : Nat} {C : Array Value} {x : Int} {k : Nat} (hk : k ≤ 64) (h : WrAt w base A T (.bool wr) bs g) (hB : w.heap[B]? = some (.cells C tB (0, 0))) (hi : C[i]? = some (.int .i64 x)) (hBA : B ≠ A) (hBg : g ≠ some B)
  (hx : IntKind.i64.wrap (IntKind.u64.wrap x) = x) (hlen : bs.length + k ≤ 1125899906842000) :
  callV Tryz.prog 50 [wv A, .pointer (some ⟨B, i, none⟩), .int .i64 k] w (WrP base A T wr bs g w (bitsOf (IntKind.u64.wrap x) k) (!decide ((IntKind.u64.wrap x).fdiv (2 ^ (min k 64)) = 0))) := by
 refine vc50 _ ⟨B, i, none⟩ k w _ (rd_of (v := .int .i64 x) (cellOf hB hi) ?_)
 simp only [vq, eqV, nilV]
 refine allocC_of fun w3 hb3 hs3 hf3 => ?_
 refine stC_one hb3 (by simp) rfl fun w4 hb4 hf4 => ?_
 have hF4 : Fm none' w w4 := hf3.trans' hf4 (by rintro i hi rfl; omega)
 have hl := h.lt
 have hw4 := h.keep hF4 id fun _ _ y => y
 have hs4 : w3.heap.size ≤ w4.heap.size := hf4.size
 refine meth_whole ?_
 refine (whole82_c hk hw4 (cellOf hb4 rfl) (by show w.heap.size ≠ A; omega) (by intro e; have := hl.2 _ e; exact absurd this (Nat.lt_irrefl _)) hlen).mono ?_
 rintro _ w10 ⟨rfl, g1, hw1, hg1, hf1⟩
 have hb10 := hf1.keep hb4 (by rintro (e | e); omega; have := hl.2 _ e; omega)
 refine rd_of (v := .int .u64 (IntKind.u64.wrap x)) (cellOf hb10 rfl) ?_
 simp only [vq, eqV, nilV, hx]
 have hB10 := hf1.keep (hF4.keep hB id) (by rintro (e | e); exact hBA e; exact hBg e)
 have hBl := lt_of_blk hB
 have hg1' : g1 = g ∨ ∃ b, g1 = some b ∧ w.heap.size ≤ b := grow_trans hF4.size (.inl rfl) hg1
 refine stC_one hB10 (Array.getElem?_eq_some_iff.1 hi).1 rfl fun w13 hB13 hf13 => ?_
 rw [set_same hi] at hB13
 have hF : Fm (fun i => i = A ∨ g = some i) w w13 := Fm.unturn (B := B) (((hF4.none.trans hf1).mono fun i _ e => .inl e).trans (hf13.mono fun i _ e => .inr e)) (hB13.trans hB.symm)
 exact ⟨rfl, g1, hw1.keep hf13 (fun e => hBA e.symm) (fun j hj e => apart_of hBl hBg hg1' (by rw [hj, e])), hg1', hF⟩
theorem num45_c {B i tB : Nat} {C : Array Value} {x : Int} {k : Nat} (hk : k ≤ 64) (h : WrAt w base A T (.bool wr) bs g) (hB : w.heap[B]? = some (.cells C tB (0, 0))) (hi : C[i]? = some (.int .u32 x)) (hBA : B ≠ A) (hBg : g ≠ some B)
  (hx : IntKind.u32.wrap (IntKind.u64.wrap x) = x) (hlen : bs.length + k ≤ 1125899906842000) :
  callV Tryz.prog 51 [wv A, .pointer (some ⟨B, i, none⟩), .int .i64 k] w (WrP base A T wr bs g w (bitsOf (IntKind.u64.wrap x) k) (!decide ((IntKind.u64.wrap x).fdiv (2 ^ (min k 64)) = 0))) := by
 refine vc51 _ ⟨B, i, none⟩ k w _ (rd_of (v := .int .u32 x) (cellOf hB hi) ?_)
 simp only [vq, eqV, nilV]
 refine allocC_of fun w3 hb3 hs3 hf3 => ?_
 refine stC_one hb3 (by simp) rfl fun w4 hb4 hf4 => ?_
 have hF4 : Fm none' w w4 := hf3.trans' hf4 (by rintro i hi rfl; omega)
 have hl := h.lt
 have hw4 := h.keep hF4 id fun _ _ y => y
 have hs4 : w3.heap.size ≤ w4.heap.size := hf4.size
 refine meth_whole ?_
 refine (whole82_c hk hw4 (cellOf hb4 rfl) (by show w.heap.size ≠ A; omega) (by intro e; have := hl.2 _ e; exact absurd this (Nat.lt_irrefl _)) hlen).mono ?_
 rintro _ w10 ⟨rfl, g1, hw1, hg1, hf1⟩
 have hb10 := hf1.keep hb4 (by rintro (e | e); omega; have := hl.2 _ e; omega)
 refine rd_of (v := .int .u64 (IntKind.u64.wrap x)) (cellOf hb10 rfl) ?_
 simp only [vq, eqV, nilV, hx]
 have hB10 := hf1.keep (hF4.keep hB id) (by rintro (e | e); exact hBA e; exact hBg e)
 have hBl := lt_of_blk hB
 have hg1' : g1 = g ∨ ∃ b, g1 = some b ∧ w.heap.size ≤ b := grow_trans hF4.size (.inl rfl) hg1
 refine stC_one hB10 (Array.getElem?_eq_some_iff.1 hi).1 rfl fun w13 hB13 hf13 => ?_
 rw [set_same hi] at hB13
 have hF : Fm (fun i => i = A ∨ g = some i) w w13 := Fm.unturn (B := B) (((hF4.none.trans hf1).mono fun i _ e => .inl e).trans (hf13.mono fun i _ e => .inr e)) (hB13.trans hB.symm)
 exact ⟨rfl, g1, hw1.keep hf13 (fun e => hBA e.symm) (fun j hj e => apart_of hBl hBg hg1' (by rw [hj, e])), hg1', hF⟩
theorem num60_c {B i tB : Nat} {C : Array Value} {x : Int} {k : Nat} (hk : k ≤ 64) (h : WrAt w base A T (.bool wr) bs g) (hB : w.heap[B]? = some (.cells C tB (0, 0))) (hi : C[i]? = some (.int .u8 x)) (hBA : B ≠ A) (hBg : g ≠ some B)
  (hx : IntKind.u8.wrap (IntKind.u64.wrap x) = x) (hlen : bs.length + k ≤ 1125899906842000) :
  callV Tryz.prog 70 [wv A, .pointer (some ⟨B, i, none⟩), .int .i64 k] w (WrP base A T wr bs g w (bitsOf (IntKind.u64.wrap x) k) (!decide ((IntKind.u64.wrap x).fdiv (2 ^ (min k 64)) = 0))) := by
 refine vc70 _ ⟨B, i, none⟩ k w _ (rd_of (v := .int .u8 x) (cellOf hB hi) ?_)
 simp only [vq, eqV, nilV]
 refine allocC_of fun w3 hb3 hs3 hf3 => ?_
 refine stC_one hb3 (by simp) rfl fun w4 hb4 hf4 => ?_
 have hF4 : Fm none' w w4 := hf3.trans' hf4 (by rintro i hi rfl; omega)
 have hl := h.lt
 have hw4 := h.keep hF4 id fun _ _ y => y
 have hs4 : w3.heap.size ≤ w4.heap.size := hf4.size
 refine meth_whole ?_
 refine (whole82_c hk hw4 (cellOf hb4 rfl) (by show w.heap.size ≠ A; omega) (by intro e; have := hl.2 _ e; exact absurd this (Nat.lt_irrefl _)) hlen).mono ?_
 rintro _ w10 ⟨rfl, g1, hw1, hg1, hf1⟩
 have hb10 := hf1.keep hb4 (by rintro (e | e); omega; have := hl.2 _ e; omega)
 refine rd_of (v := .int .u64 (IntKind.u64.wrap x)) (cellOf hb10 rfl) ?_
 simp only [vq, eqV, nilV, hx]
 have hB10 := hf1.keep (hF4.keep hB id) (by rintro (e | e); exact hBA e; exact hBg e)
 have hBl := lt_of_blk hB
 have hg1' : g1 = g ∨ ∃ b, g1 = some b ∧ w.heap.size ≤ b := grow_trans hF4.size (.inl rfl) hg1
 refine stC_one hB10 (Array.getElem?_eq_some_iff.1 hi).1 rfl fun w13 hB13 hf13 => ?_
 rw [set_same hi] at hB13
 have hF : Fm (fun i => i = A ∨ g = some i) w w13 := Fm.unturn (B := B) (((hF4.none.trans hf1).mono fun i _ e => .inl e).trans (hf13.mono fun i _ e => .inr e)) (hB13.trans hB.symm)
 exact ⟨rfl, g1, hw1.keep hf13 (fun e => hBA e.symm) (fun j hj e => apart_of hBl hBg hg1' (by rw [hj, e])), hg1', hF⟩
end Go.Proofs.YtipikchkbmgloaaGreatDoor
namespace Go.Proofs.YtipikchkbmgloaaGreatDoor
set_option linter.unusedSimpArgs false
set_option linter.unusedVariables false
open Go VC
theorem vc48 (a : Value) (b : Addr) (c : Int) (d : Int) (w : World) (R : Value → World → Prop)
 (h : heldC (World.drew w) fun u0 => (∀ (w1 : World), u0 w1 → Value.pointer (some b) = Value.pointer (some b) ∧ w1 = w1) ∧ (∀ (w3 : World), u0 w3 → Value.pointer (some b) = Value.pointer (some b) ∧ w3 = w3) ∧ (∀ (w5 : World), u0 w5 → Value.pointer (some b) = Value.pointer (some b) ∧ w5 = w5) ∧ (∀ (w7 : World), u0 w7 → Value.pointer (some b) = Value.pointer (some b) ∧ w7 = w7) ∧ (∀ (w9 : World), u0 w9 → Value.pointer (some b) = Value.pointer (some b) ∧ w9 = w9) ∧ (∀ (w11 : World), u0 w11 → Value.pointer (some (Addr.add b (1 : Nat))) = Value.pointer (some (Addr.add b (1 : Nat))) ∧ w11 = w11) ∧ (∀ (w13 : World), u0 w13 → Value.pointer (some b) = Value.pointer (some b) ∧ w13 = w13) ∧ (∀ (w15 : World), u0 w15 → Value.pointer (some b) = Value.pointer (some b) ∧ w15 = w15) ∧ (∀ (w17 : World), u0 w17 → Value.pointer (some (Addr.add b (2 : Nat))) = Value.pointer (some (Addr.add b (2 : Nat))) ∧ w17 = w17) ∧ (∀ (w19 : World), u0 w19 → Value.int IntKind.i64 (0 : Int) = Value.int IntKind.i64 (0 : Int) ∧ w19 = w19) ∧ runs Tryz.prog (Instr.buildSlice (169 : Nat) (3 : Nat) #[((0 : Nat), Value.pointer (some b)), ((1 : Nat), Value.pointer (some (Addr.add b (1 : Nat)))), ((2 : Nat), Value.pointer (some (Addr.add b (2 : Nat))))]) (World.drew w) fun v21 w22 => isSl v21 fun o23 n24 n25 => u0 w22 ∧ (∀ (w26 : World), u0 w26 → Value.int IntKind.i64 (↑n24 : Int) = Value.int IntKind.i64 (↑n24 : Int) ∧ w26 = w26) ∧ loopC (alist [((21 : Nat), Value.int IntKind.i64 (0 : Int))]) w22 fun u28 u29 => ∀ (u30 : Nat → Value) (w31 : World), u28 (alist [((21 : Nat), u30 (21 : Nat))]) w31 → rd (orO (binV BinOp.lss (u30 (21 : Nat)) (Value.int IntKind.i64 (↑n24 : Int))) none) fun v33 => isB v33 fun t34 => br t34 (cutC (fun u35 => isInt (u30 (21 : Nat)) fun k36 i37 => rd o23 fun a38 => ((0 : Int) ≤ i37 ∧ i37 < (↑n24 : Int)) ∧ rd (World.cell? w31 (Addr.add a38 (Int.toNat i37 * (1 : Nat)))) fun v39 => isP v39 fun o40 => isIf a fun n41 v42 => methV Tryz.prog n41 v42 "embrasure/message.signed" w31 fun n43 v44 => callV Tryz.prog n43 [v44, Value.pointer o40, Value.int IntKind.i64 c] w31 fun v45 w46 => heldC (World.drew w46) fun u47 => (∀ (w48 : World), u47 w48 → a = a ∧ w48 = w48) ∧ (∀ (w50 : World), u47 w50 → Value.int IntKind.i64 d = Value.int IntKind.i64 d ∧ w50 = w50) ∧ (∀ (w52 : World), u47 w52 → Value.bool (decide (d < (0 : Int))) = Value.bool (decide (d < (0 : Int))) ∧ w52 = w52) ∧ (∀ (w54 : World), u47 w54 → Value.bool (decide (d < (0 : Int))) = Value.bool (decide (d < (0 : Int))) ∧ w54 = w54) ∧ br (decide (d < (0 : Int))) ((∀ (w56 : World), u47 w56 → Value.bool true = Value.bool true ∧ w56 = w56) ∧ (∀ (w58 : World), u47 w58 → Value.func (Fn.method "embrasure/message.within") #[a] #[] = Value.func (Fn.method "embrasure/message.within") #[a] #[] ∧ w58 = w58) ∧ isIf a fun n60 v61 => nilA Tryz.prog n60 v61 "embrasure/message.within" (World.drew w46) ((∀ (w62 : World), u47 w62 → isIf a fun n64 v65 => nilA Tryz.prog n64 v65 "embrasure/message.within" w62 (Value.func (Fn.method "embrasure/message.within") #[a] #[] = Value.func (Fn.method "embrasure/message.within") #[a] #[] ∧ w62 = w62)) ∧ (∀ (w66 : World), u47 w66 → a = a ∧ w66 = w66) ∧ isIf a fun n68 v69 => methV Tryz.prog n68 v69 "embrasure/message.within" (World.drew w46) fun n70 v71 => callV Tryz.prog n70 [v71, Value.bool true] (World.drew w46) fun v72 w73 => u47 w73 ∧ u35 (alist []) w73)) ((∀ (w74 : World), u47 w74 → Value.pointer o40 = Value.pointer o40 ∧ w74 = w74) ∧ rd (nilChk (Value.pointer o40)) fun v76 => (∀ (w77 : World), u47 w77 → rd (nilChk (Value.pointer o40)) fun v79 => v79 = v76 ∧ w77 = w77) ∧ isPtr v76 fun a80 => rd (World.cell? (World.drew w46) a80) fun v81 => (∀ (w82 : World), u47 w82 → isPtr v76 fun a84 => rd (World.cell? w82 a84) fun v85 => v85 = v81 ∧ w82 = w82) ∧ isK IntKind.i64 v81 fun i86 => (∀ (w87 : World), u47 w87 → Value.int IntKind.i64 d = Value.int IntKind.i64 d ∧ w87 = w87) ∧ (∀ (w89 : World), u47 w89 → Value.int IntKind.i64 (IntKind.wrap IntKind.i64 ((0 : Int) - d)) = Value.int IntKind.i64 (IntKind.wrap IntKind.i64 ((0 : Int) - d)) ∧ w89 = w89) ∧ (∀ (w91 : World), u47 w91 → Value.bool (decide (IntKind.wrap IntKind.i64 ((0 : Int) - d) ≤ i86)) = Value.bool (decide (IntKind.wrap IntKind.i64 ((0 : Int) - d) ≤ i86)) ∧ w91 = w91) ∧ (∀ (w93 : World), u47 w93 → Value.bool (decide (IntKind.wrap IntKind.i64 ((0 : Int) - d) ≤ i86)) = Value.bool (decide (IntKind.wrap IntKind.i64 ((0 : Int) - d) ≤ i86)) ∧ w93 = w93) ∧ br (decide (IntKind.wrap IntKind.i64 ((0 : Int) - d) ≤ i86)) ((∀ (w95 : World), u47 w95 → Value.pointer o40 = Value.pointer o40 ∧ w95 = w95) ∧ rd (nilChk (Value.pointer o40)) fun v97 => (∀ (w98 : World), u47 w98 → rd (nilChk (Value.pointer o40)) fun v100 => v100 = v97 ∧ w98 = w98) ∧ isPtr v97 fun a101 => rd (World.cell? (World.drew w46) a101) fun v102 => (∀ (w103 : World), u47 w103 → isPtr v97 fun a105 => rd (World.cell? w103 a105) fun v106 => v106 = v102 ∧ w103 = w103) ∧ isK IntKind.i64 v102 fun i107 => (∀ (w108 : World), u47 w108 → Value.int IntKind.i64 d = Value.int IntKind.i64 d ∧ w108 = w108) ∧ (∀ (w110 : World), u47 w110 → Value.bool (decide (i107 ≤ d)) = Value.bool (decide (i107 ≤ d)) ∧ w110 = w110) ∧ (∀ (w112 : World), u47 w112 → Value.bool (decide (i107 ≤ d)) = Value.bool (decide (i107 ≤ d)) ∧ w112 = w112) ∧ (∀ (w114 : World), u47 w114 → Value.bool (decide (i107 ≤ d)) = Value.bool (decide (i107 ≤ d)) ∧ w114 = w114) ∧ (∀ (w116 : World), u47 w116 → Value.func (Fn.method "embrasure/message.within") #[a] #[] = Value.func (Fn.method "embrasure/message.within") #[a] #[] ∧ w116 = w116) ∧ isIf a fun n118 v119 => nilA Tryz.prog n118 v119 "embrasure/message.within" (World.drew w46) ((∀ (w120 : World), u47 w120 → isIf a fun n122 v123 => nilA Tryz.prog n122 v123 "embrasure/message.within" w120 (Value.func (Fn.method "embrasure/message.within") #[a] #[] = Value.func (Fn.method "embrasure/message.within") #[a] #[] ∧ w120 = w120)) ∧ (∀ (w124 : World), u47 w124 → a = a ∧ w124 = w124) ∧ isIf a fun n126 v127 => methV Tryz.prog n126 v127 "embrasure/message.within" (World.drew w46) fun n128 v129 => callV Tryz.prog n128 [v129, Value.bool (decide (i107 ≤ d))] (World.drew w46) fun v130 w131 => u47 w131 ∧ u35 (alist []) w131)) ((∀ (w132 : World), u47 w132 → Value.bool false = Value.bool false ∧ w132 = w132) ∧ (∀ (w134 : World), u47 w134 → Value.bool false = Value.bool false ∧ w134 = w134) ∧ (∀ (w136 : World), u47 w136 → Value.func (Fn.method "embrasure/message.within") #[a] #[] = Value.func (Fn.method "embrasure/message.within") #[a] #[] ∧ w136 = w136) ∧ isIf a fun n138 v139 => nilA Tryz.prog n138 v139 "embrasure/message.within" (World.drew w46) ((∀ (w140 : World), u47 w140 → isIf a fun n142 v143 => nilA Tryz.prog n142 v143 "embrasure/message.within" w140 (Value.func (Fn.method "embrasure/message.within") #[a] #[] = Value.func (Fn.method "embrasure/message.within") #[a] #[] ∧ w140 = w140)) ∧ (∀ (w144 : World), u47 w144 → a = a ∧ w144 = w144) ∧ isIf a fun n146 v147 => methV Tryz.prog n146 v147 "embrasure/message.within" (World.drew w46) fun n148 v149 => callV Tryz.prog n148 [v149, Value.bool false] (World.drew w46) fun v150 w151 => u47 w151 ∧ u35 (alist []) w151)))) fun u152 => ∀ (u153 : Nat → Value) (w154 : World), u152 (alist []) w154 → rd (orO (binV BinOp.add (u30 (21 : Nat)) (Value.int IntKind.i64 (1 : Int))) none) fun v156 => isK IntKind.i64 v156 fun i157 => again u28 u29 (alist [((21 : Nat), Value.int IntKind.i64 i157)]) w154 (alist [((21 : Nat), u30 (21 : Nat))]) w31) (R (Value.tuple #[]) w31)) :
 callV Tryz.prog 48 [a, Value.pointer (some b), Value.int IntKind.i64 c, Value.int IntKind.i64 d] w R :=
 vc_of hm ⟨fun n => match n with | 5 => true | _ => false, fun n => match n with | 0 => .take 0 (.take 1 (.take 2 (.take 3 (.take 4 (.take 5 (.take 6 (.take 7 (.take 8 (.take 11 (.one 9 (.take 10 (.done)))))))))))) | 4 => .take 0 (.take 1 (.take 2 (.take 3 (.take 4 (.take 5 (.take 6 (.take 7 (.take 8 (.take 9 (.take 10 (.take 11 (.take 12 (.take 13 (.take 14 (.take 15 (.take 16 (.take 17 (.take 18 (.take 19 (.take 20 (.one 21 (.done)))))))))))))))))))))) | _ => .done, fun n => match n with | 1 => [21] | 5 => [] | _ => []⟩ Tryz.func48 ent48 (by kernel_rfl) h
theorem vc45 (a : Value) (b : Addr) (w : World) (R : Value → World → Prop)
 (h : callV Tryz.prog (46 : Nat) [a, Value.pointer (some b), Value.int IntKind.i64 (16 : Int)] w fun v0 w1 => callV Tryz.prog (70 : Nat) [a, Value.pointer (some (Addr.add b (1 : Nat))), Value.int IntKind.i64 (2 : Int)] w1 fun v2 w3 => heldC (World.drew w3) fun u4 => (∀ (w5 : World), u4 w5 → Value.pointer (some b) = Value.pointer (some b) ∧ w5 = w5) ∧ (∀ (w7 : World), u4 w7 → Value.pointer (some b) = Value.pointer (some b) ∧ w7 = w7) ∧ (∀ (w9 : World), u4 w9 → Value.pointer (some (Addr.add b (2 : Nat))) = Value.pointer (some (Addr.add b (2 : Nat))) ∧ w9 = w9) ∧ (∀ (w11 : World), u4 w11 → Value.pointer (some b) = Value.pointer (some b) ∧ w11 = w11) ∧ (∀ (w13 : World), u4 w13 → Value.pointer (some b) = Value.pointer (some b) ∧ w13 = w13) ∧ (∀ (w15 : World), u4 w15 → Value.pointer (some (Addr.add b (3 : Nat))) = Value.pointer (some (Addr.add b (3 : Nat))) ∧ w15 = w15) ∧ (∀ (w17 : World), u4 w17 → Value.int IntKind.i64 (0 : Int) = Value.int IntKind.i64 (0 : Int) ∧ w17 = w17) ∧ runs Tryz.prog (Instr.buildSlice (163 : Nat) (2 : Nat) #[((0 : Nat), Value.pointer (some (Addr.add b (2 : Nat)))), ((1 : Nat), Value.pointer (some (Addr.add b (3 : Nat))))]) (World.drew w3) fun v19 w20 => isSl v19 fun o21 n22 n23 => u4 w20 ∧ (∀ (w24 : World), u4 w24 → Value.int IntKind.i64 (↑n22 : Int) = Value.int IntKind.i64 (↑n22 : Int) ∧ w24 = w24) ∧ loopC (alist [((26 : Nat), Value.int IntKind.i64 (0 : Int))]) w20 fun u26 u27 => ∀ (u28 : Nat → Value) (w29 : World), u26 (alist [((26 : Nat), u28 (26 : Nat))]) w29 → rd (orO (binV BinOp.lss (u28 (26 : Nat)) (Value.int IntKind.i64 (↑n22 : Int))) none) fun v31 => isB v31 fun t32 => br t32 (isInt (u28 (26 : Nat)) fun k33 i34 => rd o21 fun a35 => ((0 : Int) ≤ i34 ∧ i34 < (↑n22 : Int)) ∧ rd (World.cell? w29 (Addr.add a35 (Int.toNat i34 * (1 : Nat)))) fun v36 => isP v36 fun o37 => rd (nilChk (Value.pointer o37)) fun v38 => isPtr v38 fun a39 => rd (World.cell? w29 a39) fun v40 => isK IntKind.i8 v40 fun i41 => allocC w29 (Obj.cells #[Value.int IntKind.i64 (0 : Int)] (2 : Nat)) fun n42 w43 => stC w43 { block := n42, off := (0 : Nat) : Addr } [Value.int IntKind.i64 (IntKind.wrap IntKind.i64 i41)] fun w44 => isIf a fun n45 v46 => methV Tryz.prog n45 v46 "embrasure/message.signed" w44 fun n47 v48 => callV Tryz.prog n47 [v48, Value.pointer (some { block := n42, off := (0 : Nat) : Addr }), Value.int IntKind.i64 (8 : Int)] w44 fun v49 w50 => rd (World.cell? w50 { block := n42, off := (0 : Nat) : Addr }) fun v51 => isK IntKind.i64 v51 fun i52 => rd (nilChk (Value.pointer o37)) fun v53 => isPtr v53 fun a54 => stC w50 a54 [Value.int IntKind.i8 (IntKind.wrap IntKind.i8 i52)] fun w55 => rd (orO (binV BinOp.add (u28 (26 : Nat)) (Value.int IntKind.i64 (1 : Int))) none) fun v56 => isK IntKind.i64 v56 fun i57 => again u26 u27 (alist [((26 : Nat), Value.int IntKind.i64 i57)]) w55 (alist [((26 : Nat), u28 (26 : Nat))]) w29) (rd (World.cell? w29 (Addr.add b (4 : Nat))) fun v58 => isK IntKind.i64 v58 fun i59 => allocC w29 (Obj.cells #[Value.int IntKind.i64 (0 : Int)] (3 : Nat)) fun n60 w61 => stC w61 { block := n60, off := (0 : Nat) : Addr } [Value.int IntKind.i64 (IntKind.wrap IntKind.i64 (i59 - (1 : Int)))] fun w62 => callV Tryz.prog (47 : Nat) [a, Value.pointer (some { block := n60, off := (0 : Nat) : Addr }), Value.int IntKind.i64 (3 : Int)] w62 fun v63 w64 => rd (World.cell? w64 { block := n60, off := (0 : Nat) : Addr }) fun v65 => isK IntKind.i64 v65 fun i66 => stC w64 (Addr.add b (4 : Nat)) [Value.int IntKind.i64 (IntKind.wrap IntKind.i64 (i66 + (1 : Int)))] fun w67 => R (Value.tuple #[]) w67)) :
 callV Tryz.prog 45 [a, Value.pointer (some b)] w R :=
 vc_of hm ⟨fun n => match n with | 27 => true | _ => false, fun n => match n with | 2 => .take 0 (.take 1 (.take 2 (.take 3 (.take 4 (.take 5 (.take 8 (.one 6 (.take 7 (.done))))))))) | _ => .done, fun n => match n with | 3 => [26] | _ => []⟩ Tryz.func45 ent45 (by kernel_rfl) h
theorem vc20 (a : Value) (b : Addr) (w : World) (R : Value → World → Prop)
 (h : rd (World.cell? w b) fun v0 => isK IntKind.i64 v0 fun i1 => cutC (fun u2 => br (decide (i1 = (1 : Int))) (R (Value.bool true) w) (br (decide (i1 = (4 : Int))) (R (Value.bool true) w) (br (decide (i1 = (2 : Int))) (callV Tryz.prog (45 : Nat) [a, Value.pointer (some (Addr.add b (2 : Nat)))] w fun v3 w4 => R (Value.bool true) w4) (br (decide (i1 = (3 : Int))) (callV Tryz.prog (46 : Nat) [a, Value.pointer (some (Addr.add b (7 : Nat))), Value.int IntKind.i64 (16 : Int)] w fun v5 w6 => callV Tryz.prog (47 : Nat) [a, Value.pointer (some (Addr.add b (9 : Nat))), Value.int IntKind.i64 (1 : Int)] w6 fun v7 w8 => callV Tryz.prog (48 : Nat) [a, Value.pointer (some (Addr.add b (10 : Nat))), Value.int IntKind.i64 (18 : Int), Value.int IntKind.i64 (65536 : Int)] w8 fun v9 w10 => R (Value.bool true) w10) (br (decide (i1 = (6 : Int))) (callV Tryz.prog (46 : Nat) [a, Value.pointer (some (Addr.add b (1 : Nat))), Value.int IntKind.i64 (16 : Int)] w fun v11 w12 => callV Tryz.prog (48 : Nat) [a, Value.pointer (some (Addr.add b (14 : Nat))), Value.int IntKind.i64 (32 : Int), Value.int IntKind.i64 (-1 : Int)] w12 fun v13 w14 => callV Tryz.prog (48 : Nat) [a, Value.pointer (some (Addr.add b (17 : Nat))), Value.int IntKind.i64 (32 : Int), Value.int IntKind.i64 (-1 : Int)] w14 fun v15 w16 => R (Value.bool true) w16) (br (decide (i1 = (7 : Int))) (callV Tryz.prog (46 : Nat) [a, Value.pointer (some (Addr.add b (7 : Nat))), Value.int IntKind.i64 (16 : Int)] w fun v17 w18 => callV Tryz.prog (49 : Nat) [a, Value.pointer (some (Addr.add b (8 : Nat)))] w18 fun v19 w20 => R (Value.bool true) w20) (br (decide (i1 = (5 : Int))) (callV Tryz.prog (49 : Nat) [a, Value.pointer (some (Addr.add b (8 : Nat)))] w fun v21 w22 => R (Value.bool true) w22) (br (decide (i1 = (8 : Int))) (u2 (alist []) w) (br (decide (i1 = (9 : Int))) (callV Tryz.prog (51 : Nat) [a, Value.pointer (some (Addr.add b (20 : Nat))), Value.int IntKind.i64 (32 : Int)] w fun v23 w24 => callV Tryz.prog (51 : Nat) [a, Value.pointer (some (Addr.add b (21 : Nat))), Value.int IntKind.i64 (32 : Int)] w24 fun v25 w26 => heldC (World.drew w26) fun u27 => (∀ (w28 : World), u27 w28 → a = a ∧ w28 = w28) ∧ (∀ (w30 : World), u27 w30 → Value.pointer (some b) = Value.pointer (some b) ∧ w30 = w30) ∧ (∀ (w32 : World), u27 w32 → Value.pointer (some b) = Value.pointer (some b) ∧ w32 = w32) ∧ (∀ (w34 : World), u27 w34 → Value.pointer (some (Addr.add b (22 : Nat))) = Value.pointer (some (Addr.add b (22 : Nat))) ∧ w34 = w34) ∧ (∀ (w36 : World), u27 w36 → Value.func (Fn.method "embrasure/message.bytes") #[a] #[] = Value.func (Fn.method "embrasure/message.bytes") #[a] #[] ∧ w36 = w36) ∧ isIf a fun n38 v39 => nilA Tryz.prog n38 v39 "embrasure/message.bytes" (World.drew w26) ((∀ (w40 : World), u27 w40 → isIf a fun n42 v43 => nilA Tryz.prog n42 v43 "embrasure/message.bytes" w40 (Value.func (Fn.method "embrasure/message.bytes") #[a] #[] = Value.func (Fn.method "embrasure/message.bytes") #[a] #[] ∧ w40 = w40)) ∧ (∀ (w44 : World), u27 w44 → a = a ∧ w44 = w44) ∧ isIf a fun n46 v47 => methV Tryz.prog n46 v47 "embrasure/message.bytes" (World.drew w26) fun n48 v49 => callV Tryz.prog n48 [v49, Value.pointer (some (Addr.add b (22 : Nat))), Value.int IntKind.i64 (10 : Int)] (World.drew w26) fun v50 w51 => R (Value.bool true) w51)) (R (Value.bool false) w)))))))))) fun u52 => ∀ (u53 : Nat → Value) (w54 : World), u52 (alist []) w54 → callV Tryz.prog (46 : Nat) [a, Value.pointer (some (Addr.add b (7 : Nat))), Value.int IntKind.i64 (16 : Int)] w54 fun v56 w57 => callV Tryz.prog (50 : Nat) [a, Value.pointer (some (Addr.add b (13 : Nat))), Value.int IntKind.i64 (4 : Int)] w57 fun v58 w59 => heldC (World.drew w59) fun u60 => (∀ (w61 : World), u60 w61 → a = a ∧ w61 = w61) ∧ (∀ (w63 : World), u60 w63 → Value.pointer (some b) = Value.pointer (some b) ∧ w63 = w63) ∧ (∀ (w65 : World), u60 w65 → Value.pointer (some b) = Value.pointer (some b) ∧ w65 = w65) ∧ (∀ (w67 : World), u60 w67 → Value.pointer (some (Addr.add b (13 : Nat))) = Value.pointer (some (Addr.add b (13 : Nat))) ∧ w67 = w67) ∧ rd (World.cell? (World.drew w59) (Addr.add b (13 : Nat))) fun v69 => (∀ (w70 : World), u60 w70 → rd (World.cell? w70 (Addr.add b (13 : Nat))) fun v72 => v72 = v69 ∧ w70 = w70) ∧ isK IntKind.i64 v69 fun i73 => (∀ (w74 : World), u60 w74 → Value.bool (decide ((1 : Int) ≤ i73)) = Value.bool (decide ((1 : Int) ≤ i73)) ∧ w74 = w74) ∧ (∀ (w76 : World), u60 w76 → Value.bool (decide ((1 : Int) ≤ i73)) = Value.bool (decide ((1 : Int) ≤ i73)) ∧ w76 = w76) ∧ br (decide ((1 : Int) ≤ i73)) ((∀ (w78 : World), u60 w78 → Value.pointer (some b) = Value.pointer (some b) ∧ w78 = w78) ∧ (∀ (w80 : World), u60 w80 → Value.pointer (some b) = Value.pointer (some b) ∧ w80 = w80) ∧ (∀ (w82 : World), u60 w82 → Value.pointer (some (Addr.add b (13 : Nat))) = Value.pointer (some (Addr.add b (13 : Nat))) ∧ w82 = w82) ∧ rd (World.cell? (World.drew w59) (Addr.add b (13 : Nat))) fun v84 => (∀ (w85 : World), u60 w85 → rd (World.cell? w85 (Addr.add b (13 : Nat))) fun v87 => v87 = v84 ∧ w85 = w85) ∧ isK IntKind.i64 v84 fun i88 => (∀ (w89 : World), u60 w89 → Value.bool (decide (i88 ≤ (10 : Int))) = Value.bool (decide (i88 ≤ (10 : Int))) ∧ w89 = w89) ∧ (∀ (w91 : World), u60 w91 → Value.bool (decide (i88 ≤ (10 : Int))) = Value.bool (decide (i88 ≤ (10 : Int))) ∧ w91 = w91) ∧ (∀ (w93 : World), u60 w93 → Value.func (Fn.method "embrasure/message.within") #[a] #[] = Value.func (Fn.method "embrasure/message.within") #[a] #[] ∧ w93 = w93) ∧ isIf a fun n95 v96 => nilA Tryz.prog n95 v96 "embrasure/message.within" (World.drew w59) ((∀ (w97 : World), u60 w97 → isIf a fun n99 v100 => nilA Tryz.prog n99 v100 "embrasure/message.within" w97 (Value.func (Fn.method "embrasure/message.within") #[a] #[] = Value.func (Fn.method "embrasure/message.within") #[a] #[] ∧ w97 = w97)) ∧ (∀ (w101 : World), u60 w101 → a = a ∧ w101 = w101) ∧ isIf a fun n103 v104 => methV Tryz.prog n103 v104 "embrasure/message.within" (World.drew w59) fun n105 v106 => callV Tryz.prog n105 [v106, Value.bool (decide (i88 ≤ (10 : Int)))] (World.drew w59) fun v107 w108 => u60 w108 ∧ R (Value.bool true) w108)) ((∀ (w109 : World), u60 w109 → Value.bool false = Value.bool false ∧ w109 = w109) ∧ (∀ (w111 : World), u60 w111 → Value.func (Fn.method "embrasure/message.within") #[a] #[] = Value.func (Fn.method "embrasure/message.within") #[a] #[] ∧ w111 = w111) ∧ isIf a fun n113 v114 => nilA Tryz.prog n113 v114 "embrasure/message.within" (World.drew w59) ((∀ (w115 : World), u60 w115 → isIf a fun n117 v118 => nilA Tryz.prog n117 v118 "embrasure/message.within" w115 (Value.func (Fn.method "embrasure/message.within") #[a] #[] = Value.func (Fn.method "embrasure/message.within") #[a] #[] ∧ w115 = w115)) ∧ (∀ (w119 : World), u60 w119 → a = a ∧ w119 = w119) ∧ isIf a fun n121 v122 => methV Tryz.prog n121 v122 "embrasure/message.within" (World.drew w59) fun n123 v124 => callV Tryz.prog n123 [v124, Value.bool false] (World.drew w59) fun v125 w126 => u60 w126 ∧ R (Value.bool true) w126))) :
 callV Tryz.prog 20 [a, Value.pointer (some b)] w R :=
 vc_of hm ⟨fun n => match n with | 20 => true | _ => false, fun n => match n with | 22 => .take 0 (.take 1 (.take 2 (.take 3 (.take 4 (.take 5 (.take 6 (.take 7 (.take 8 (.take 9 (.take 10 (.take 11 (.take 12 (.take 13 (.take 14 (.take 15 (.one 16 (.done))))))))))))))))) | 25 => .take 0 (.take 1 (.take 2 (.take 3 (.take 4 (.take 5 (.take 6 (.last 7 (.done)))))))) | _ => .done, fun n => match n with | 20 => [] | _ => []⟩ Tryz.func20 ent20 (by kernel_rfl) h
end Go.Proofs.YtipikchkbmgloaaGreatDoor
namespace Go.Proofs.YtipikchkbmgloaaGreatDoor
set_option linter.unusedSimpArgs false
set_option linter.unusedVariables false
open Go Go.RowKit VC
variable {w : World} {base A : Nat} {T : TypeId} {wr : Bool} {bs : List Int} {g : Option Nat}
theorem WrP.seq {w1 w2 : World} {b1 b2 : List Int} {d1 d2 : Bool} {v2 : Value} {g1 : Option Nat} (hg : g1 = g ∨ ∃ b, g1 = some b ∧ w.heap.size ≤ b) (hF : Fm (fun i => i = A ∨ g = some i) w w1)
  (h2 : WrP base A T (wr || d1) (bs ++ b1) g1 w1 b2 d2 v2 w2) : WrP base A T wr bs g w (b1 ++ b2) (d1 || d2) v2 w2 := by
 obtain ⟨rfl, g2, h3, h4, h5⟩ := h2
 exact ⟨rfl, g2, by rw [← List.append_assoc, ← Bool.or_assoc]; exact h3, grow_trans hF.size hg h4, fm_trans hF hg h5⟩
theorem id43_c {B i tB : Nat} {C : Array Value} {x : Int} (h : WrAt w base A T (.bool wr) bs g) (hB : w.heap[B]? = some (.cells C tB (0, 0))) (hi : C[i]? = some (.int .i64 x)) (hBA : B ≠ A) (hBg : g ≠ some B)
  (hx : IntKind.i64.wrap (IntKind.u64.wrap x) = x) (hlen : bs.length + 31 ≤ 1125899906842000) :
  callV Tryz.prog 49 [wv A, .pointer (some ⟨B, i, none⟩)] w (WrP base A T wr bs g w (bitsOf (IntKind.u64.wrap x) 31) (!decide ((IntKind.u64.wrap x).fdiv (2 ^ 31) = 0) || !decide (0 < x))) := by
 refine vc49 _ ⟨B, i, none⟩ w _ ?_
 refine (num30_c (k := 31) (by omega) h hB hi hBA hBg hx hlen).mono ?_
 rintro _ w1 ⟨rfl, g1, hw1, hg1, hf1⟩
 have hB1 : w1.drew.heap[B]? = some (.cells C tB (0, 0)) := hf1.keep hB (by rintro (e | e); exact hBA e; exact hBg e)
 have hw1' := hw1.keep (Fm.drew w1) id fun _ _ y => y
 refine ⟨fun w' => w'.heap[B]? = some (.cells C tB (0, 0)), hB1, ?_⟩
 simp only [vq, eqV, nilV]
 refine rd_of (v := .int .i64 x) (cellOf hB1 hi) ⟨fun w' hw => rd_of (cellOf hw hi) rfl, ?_⟩
 simp only [vq, eqV, nilV]
 refine nila_within ⟨fun w' _ => nila_within trivial, meth_within ?_⟩
 refine (within83_c _ hw1').mono ?_
 rintro v w2 h2
 have hf1' : Fm (fun i => i = A ∨ g = some i) w w1.drew := hf1.trans (Fm.drew w1).none
 have hs := WrP.seq (v2 := v) hg1 hf1' h2
 obtain ⟨rfl, g2, hw2, hg2, hf2⟩ := h2
 rw [List.append_nil] at hs
 exact hs
def vecBits (x : Int) (k : Nat) : List Int := bitsOf (IntKind.u64.wrap x) k
def vecBad (x : Int) (k : Nat) (d : Int) : Bool := !decide ((IntKind.i64.wrap (x * 2 ^ (64 - k))).fdiv (2 ^ (64 - k)) = x) || !(decide (d < 0) || (decide (IntKind.i64.wrap (0 - d) ≤ x) && decide (x ≤ d)))
def vecB (xs : List Int) (k : Nat) : List Int := xs.flatMap fun x => vecBits x k
def vecD (xs : List Int) (k : Nat) (d : Int) : Bool := xs.any fun x => vecBad x k d
set_option maxHeartbeats 1000000 in
set_option maxRecDepth 20000 in
theorem vec42_c {B i tB : Nat} {C : Array Value} {x0 x1 x2 d : Int} {k : Nat} (hk : k ≤ 64) (h : WrAt w base A T (.bool wr) bs g) (hB : w.heap[B]? = some (.cells C tB (0, 0)))
  (h0 : C[i]? = some (.int .i64 x0)) (h1 : C[i + 1]? = some (.int .i64 x1)) (h2 : C[i + 2]? = some (.int .i64 x2)) (hBA : B ≠ A) (hBg : g ≠ some B) (hlen : bs.length + 3 * k ≤ 1125899906842000) :
  callV Tryz.prog 48 [wv A, .pointer (some ⟨B, i, none⟩), .int .i64 k, .int .i64 d] w (WrP base A T wr bs g w (vecB [x0, x1, x2] k) (vecD [x0, x1, x2] k d)) := by
 have hl := h.lt
 have hBl := lt_of_blk hB
 refine vc48 _ ⟨B, i, none⟩ k d w _ ?_
 have hB0 : w.drew.heap[B]? = some (.cells C tB (0, 0)) := hB
 refine ⟨fun w' => True, trivial, ?_⟩
 simp only [vq, eqV, nilV, addr_add]
 refine build_3 (by rw [row169]) row165 rfl rfl rfl rfl fun w22 hb22 hs22 hf22 => ?_
 simp only [vq, eqV, nilV]
 have hF22 : Fm none' w w22 := (Fm.drew w).trans hf22
 obtain ⟨xs, hxs⟩ : ∃ xs : List Int, xs = [x0, x1, x2] := ⟨_, rfl⟩
 rw [← hxs]
 have hxl : xs.length = 3 := by rw [hxs]; rfl
 have hcell : ∀ j, j < 3 → ∀ x, xs[j]? = some x → C[i + j]? = some (.int .i64 x) := by
  intro j hj x hx
  rw [hxs] at hx
  match j, hj with
  | 0, _ => simp at hx; subst hx; exact h0
  | 1, _ => simp at hx; subst hx; exact h1
  | 2, _ => simp at hx; subst hx; exact h2
 refine ⟨fun u w' => ∃ (j : Nat) (g' : Option Nat), j ≤ 3 ∧ u 21 = .int .i64 j ∧ WrAt w' base A T (.bool (wr || vecD (xs.take j) k d)) (bs ++ vecB (xs.take j) k) g' ∧ (g' = g ∨ ∃ b, g' = some b ∧ w.heap.size ≤ b) ∧ g' ≠ some w.heap.size ∧ Fm (fun i => i = A ∨ g = some i) w w' ∧
  w'.heap[w.heap.size]? = some (.cells #[.pointer (some ⟨B, i, none⟩), .pointer (some ⟨B, i + 1, none⟩), .pointer (some ⟨B, i + 2, none⟩)] 165 (0, 0)), fun u _ => 3 - (intOf (u 21)).toNat, ?_, ?_⟩
 ·refine ⟨0, g, by omega, rfl, ?_, .inl rfl, (fun e => by have := hl.2 _ e; omega), hF22.none, hb22⟩
  simp only [List.take_zero, vecD, vecB, List.any_nil, List.flatMap_nil, List.append_nil, Bool.or_false]
  exact h.keep hF22 id fun _ _ y => y
 rintro u w31 ⟨j, g', hj, h21, hw, hg', hgn, hF, hb31⟩
 change u 21 = .int .i64 j at h21
 simp only [h21, vq, eqV, nilV]
 refine br_dec (fun hj3 => ?_) (fun hj3 => ?_)
 ·obtain ⟨x, hx⟩ : ∃ x, xs[j]? = some x := ⟨xs[j]'(by omega), by simp⟩
  have hcx := hcell j (by omega) x hx
  have htk : xs.take (j + 1) = xs.take j ++ [x] := by rw [List.take_add_one, hx]; rfl
  have hvl : ∀ l : List Int, (vecB l k).length = l.length * k := by
   intro l
   induction l with
   | nil => simp [vecB]
   | cons y l ih => simp only [vecB, List.flatMap_cons, List.length_append] at ih ⊢; rw [ih]; simp only [vecBits, bitsOf_length, List.length_cons, Nat.succ_mul]; omega
  refine ⟨fun _ w' => ∃ g' : Option Nat, WrAt w' base A T (.bool (wr || vecD (xs.take (j + 1)) k d)) (bs ++ vecB (xs.take (j + 1)) k) g' ∧ (g' = g ∨ ∃ b, g' = some b ∧ w.heap.size ≤ b) ∧ g' ≠ some w.heap.size ∧ Fm (fun i => i = A ∨ g = some i) w w' ∧
   w'.heap[w.heap.size]? = some (.cells #[.pointer (some ⟨B, i, none⟩), .pointer (some ⟨B, i + 1, none⟩), .pointer (some ⟨B, i + 2, none⟩)] 165 (0, 0)), ?_, ?_⟩
  ·refine ⟨by omega, ?_⟩
   have hptr : w31.cell? ⟨w.heap.size, j, none⟩ = some (.pointer (some ⟨B, i + j, none⟩)) := by
    match j, (show j < 3 by omega) with
    | 0, _ => exact cellOf hb31 rfl
    | 1, _ => exact cellOf hb31 rfl
    | 2, _ => exact cellOf hb31 rfl
   simp only [addr_add, Nat.zero_add]
   refine rd_of hptr ?_
   simp only [vq, eqV, nilV]
   refine meth_signed ?_
   have hB31 := hF.keep hB (by rintro (e | e); exact hBA e; exact hBg e)
   have hBg' := apart_of hBl hBg hg'
   have hlen' : (bs ++ vecB (xs.take j) k).length + k ≤ 1125899906842000 := by
    rw [List.length_append, hvl, List.length_take]
    have : min j xs.length * k ≤ 2 * k := Nat.mul_le_mul_right _ (by omega)
    omega
   refine (signed81_c (n := x) hk hw (cellOf hB31 hcx) hBA hBg' hlen').mono ?_
   rintro _ w45 ⟨rfl, g1, hw1, hg1, hf1⟩
   have hw1' := hw1.keep (Fm.drew w45) id fun _ _ y => y
   have hB45 : w45.drew.heap[B]? = some (.cells C tB (0, 0)) := hf1.keep hB31 (by rintro (e | e); exact hBA e; exact hBg' e)
   have hg1w := grow_trans hF.size hg' hg1
   have hb45 : w45.drew.heap[w.heap.size]? = _ := hf1.keep hb31 (by rintro (e | e); omega; exact hgn e)
   have hg1n : g1 ≠ some w.heap.size := apart_of (lt_of_blk hb31) hgn hg1
   have hF45 : Fm (fun i => i = A ∨ g = some i) w w45.drew := (fm_trans hF hg' hf1).trans (Fm.drew w45).none
   have fin : ∀ b : Bool, b = (decide (d < 0) || (decide (IntKind.i64.wrap (0 - d) ≤ x) && decide (x ≤ d))) → callV Tryz.prog 118 [.pointer (some ⟨A, 0, none⟩), .bool b] w45.drew fun v w' => w'.heap[B]? = some (.cells C tB (0, 0)) ∧
     ∃ g' : Option Nat, WrAt w' base A T (.bool (wr || vecD (xs.take (j + 1)) k d)) (bs ++ vecB (xs.take (j + 1)) k) g' ∧ (g' = g ∨ ∃ b, g' = some b ∧ w.heap.size ≤ b) ∧ g' ≠ some w.heap.size ∧ Fm (fun i => i = A ∨ g = some i) w w' ∧
      w'.heap[w.heap.size]? = some (.cells #[.pointer (some ⟨B, i, none⟩), .pointer (some ⟨B, i + 1, none⟩), .pointer (some ⟨B, i + 2, none⟩)] 165 (0, 0)) := by
    intro b hb
    refine (within83_c b hw1').mono ?_
    rintro _ w2 ⟨rfl, g2, hw2, hg2, hf2⟩
    have hBg1 := apart_of hBl hBg hg1w
    refine ⟨hf2.keep hB45 (by rintro (e | e); exact hBA e; exact hBg1 e), g2, ?_, grow_trans hF45.size hg1w hg2, apart_of (lt_of_blk hb45) hg1n hg2, fm_trans hF45 hg1w hf2, hf2.keep hb45 (by rintro (e | e); omega; exact hg1n e)⟩
    rw [List.append_nil, List.append_assoc] at hw2
    rw [htk]
    have e1 : vecB (xs.take j ++ [x]) k = vecB (xs.take j) k ++ bitsOf (IntKind.u64.wrap x) k := by simp [vecB, vecBits]
    have e2 : (wr || vecD (xs.take j ++ [x]) k d) = (((wr || vecD (xs.take j) k d) || !decide ((IntKind.i64.wrap (x * 2 ^ (64 - k))).fdiv (2 ^ (64 - k)) = x)) || !b) := by
     simp only [vecD, List.any_append, List.any_cons, List.any_nil, Bool.or_false, vecBad, hb, Bool.or_assoc]
    rw [e1, e2]
    exact hw2
   refine ⟨fun w' => w'.heap[B]? = some (.cells C tB (0, 0)), hB45, ?_⟩
   refine br_dec (fun hd => ?_) (fun hd => ?_)
   ·refine nila_within ⟨fun _ _ => nila_within trivial, meth_within ?_⟩
    exact fin true (by rw [decide_eq_true hd]; rfl)
   ·simp only [vq, eqV, nilV]
    refine rd_of (v := .int .i64 x) (cellOf hB45 hcx) ⟨fun w' hw => rd_of (cellOf hw hcx) rfl, ?_⟩
    simp only [vq, eqV, nilV]
    refine br_dec (fun hd1 => ?_) (fun hd1 => ?_)
    ·refine rd_of (v := .int .i64 x) (cellOf hB45 hcx) ⟨fun w' hw => rd_of (cellOf hw hcx) rfl, ?_⟩
     simp only [vq, eqV, nilV]
     refine nila_within ⟨fun _ _ => nila_within trivial, meth_within ?_⟩
     exact fin _ (by rw [decide_eq_false hd, decide_eq_true hd1]; simp)
    ·refine nila_within ⟨fun _ _ => nila_within trivial, meth_within ?_⟩
     exact fin false (by rw [decide_eq_false hd, decide_eq_false hd1]; rfl)
  ·rintro u35 w36 ⟨g2, h3, h4, h5, h6, h7⟩
   rw [w64 (by omega)]
   refine ⟨⟨j + 1, g2, by omega, rfl, h3, h4, h5, h6, h7⟩, ?_⟩
   show 3 - ((j : Int) + 1).toNat < 3 - (j : Int).toNat; omega
 ·have : j = 3 := by omega
  subst this
  rw [List.take_of_length_le (by omega)] at hw
  exact ⟨rfl, g', hw, hg', hF⟩
end Go.Proofs.YtipikchkbmgloaaGreatDoor
namespace Go.Proofs.YtipikchkbmgloaaGreatDoor
set_option linter.unusedSimpArgs false
set_option linter.unusedVariables false
open Go Go.RowKit VC
variable {w : World} {base A : Nat} {T : TypeId} {wr : Bool} {bs : List Int} {g : Option Nat}
def byteBits (ys : List Int) : List Int := ys.flatMap fun y => bitsOf (IntKind.u64.wrap y) 8
theorem byteBits_length (ys : List Int) : (byteBits ys).length = 8 * ys.length := by
 induction ys with
 | nil => rfl
 | cons y ys ih => simp only [byteBits, List.flatMap_cons, List.length_append] at ih ⊢; rw [ih, bitsOf_length, List.length_cons]; omega
set_option maxHeartbeats 1000000 in
set_option maxRecDepth 20000 in
theorem bytes80_c {B i tB cp k : Nat} {C : Array Value} {p : Option Addr} {ys : List Int} (hk : k ≤ 64) (h : WrAt w base A T (.bool wr) bs g) (hB : w.heap[B]? = some (.cells C tB (0, 0))) (hi : C[i]? = some (.slice p ys.length cp)) (hBA : B ≠ A) (hBg : g ≠ some B)
  (hy : ∀ j y, ys[j]? = some y → ∃ ad, p = some ad ∧ ad.block ≠ A ∧ g ≠ some ad.block ∧ w.cell? (ad.add j) = some (.int .u8 y)) (hlen : bs.length + k + 8 * ys.length ≤ 1125899906842000) :
  callV Tryz.prog 115 [.pointer (some ⟨A, 0, none⟩), .pointer (some ⟨B, i, none⟩), .int .i64 k] w (WrP base A T wr bs g w (bitsOf (IntKind.u64.wrap ys.length) k ++ byteBits ys) (!decide ((IntKind.u64.wrap (ys.length : Int)).fdiv (2 ^ (min k 64)) = 0))) := by
 have hl := h.lt
 have hBl := lt_of_blk hB
 refine vc115 ⟨A, 0, none⟩ ⟨B, i, none⟩ k w _ (rd_of (v := .slice p ys.length cp) (cellOf hB hi) ?_)
 simp only [vq, eqV, nilV]
 refine allocC_of fun w5 hb5 hs5 hf5 => ?_
 refine stC_one hb5 (by simp) rfl fun w6 hb6 hf6 => ?_
 have hF6 : Fm none' w w6 := hf5.trans' hf6 (by rintro i hi rfl; omega)
 have hw6 := h.keep hF6 id fun _ _ y => y
 have hs6 : w.heap.size < w6.heap.size := lt_of_blk hb6
 refine (whole82_c hk hw6 (cellOf hb6 rfl) (by show w.heap.size ≠ A; omega) (by intro e; have := hl.2 _ e; exact absurd this (Nat.lt_irrefl _)) (by omega)).mono ?_
 rintro _ w8 ⟨rfl, g1, hw1, hg1, hf1⟩
 have hF8 : Fm (fun i => i = A ∨ g = some i) w w8 := hF6.none.trans hf1
 have hg1w : g1 = g ∨ ∃ b, g1 = some b ∧ w.heap.size ≤ b := grow_trans hF6.size (.inl rfl) hg1
 refine rd_of (v := .slice p ys.length cp) (cellOf (hF8.keep hB (by rintro (e | e); exact hBA e; exact hBg e)) hi) ?_
 simp only [vq, eqV, nilV]
 refine ⟨fun u w' => ∃ (j : Nat) (g' : Option Nat), j ≤ ys.length ∧ u 21 = .int .i64 j ∧ WrAt w' base A T (.bool (wr || !decide ((IntKind.u64.wrap (ys.length : Int)).fdiv (2 ^ (min k 64)) = 0))) (bs ++ (bitsOf (IntKind.u64.wrap ys.length) k ++ byteBits (ys.take j))) g' ∧ (g' = g ∨ ∃ b, g' = some b ∧ w.heap.size ≤ b) ∧ Fm (fun i => i = A ∨ g = some i) w w', fun u _ => ys.length - (intOf (u 21)).toNat, ?_, ?_⟩
 ·refine ⟨0, g1, by omega, rfl, ?_, hg1w, hF8⟩
  simp only [List.take_zero, byteBits, List.flatMap_nil, List.append_nil]
  exact hw1
 rintro u w16 ⟨j, g', hj, h21, hw, hg', hF⟩
 change u 21 = .int .i64 j at h21
 simp only [h21, vq, eqV, nilV]
 refine br_dec (fun hjn => ?_) (fun hjn => ?_)
 ·obtain ⟨y, hyj⟩ : ∃ y, ys[j]? = some y := ⟨ys[j]'(by omega), by simp⟩
  obtain ⟨ad, rfl, hadA, hadg, hc⟩ := hy j y hyj
  have hblk : (ad.add j).block = ad.block := by unfold Addr.add; split <;> rfl
  simp only [vq, eqV, nilV]
  refine ⟨by omega, rd_of (hF.cell hc (by rw [hblk]; rintro (e | e); exact hadA e; exact hadg e)) ?_⟩
  simp only [vq, eqV, nilV]
  refine (put21_c (IntKind.u64.wrap y) 8 (by omega) hw (by simp only [List.length_append, bitsOf_length, byteBits_length, List.length_take]; omega)).mono ?_
  rintro _ w26 ⟨rfl, g2, hw2, hg2, hf2⟩
  rw [w64 (by have := hlen; omega)]
  refine ⟨⟨j + 1, g2, by omega, rfl, ?_, grow_trans hF.size hg' hg2, fm_trans hF hg' hf2⟩, ?_⟩
  ·rw [List.take_add_one, hyj]
   have e1 : byteBits (ys.take j ++ [y]) = byteBits (ys.take j) ++ bitsOf (IntKind.u64.wrap y) 8 := by simp [byteBits]
   simp only [Option.toList_some]
   rw [e1]
   simp only [List.append_assoc] at hw2 ⊢
   exact hw2
  ·show ys.length - ((j : Int) + 1).toNat < ys.length - (j : Int).toNat; omega
 ·rw [List.take_of_length_le (by omega)] at hw
  exact ⟨rfl, g', hw, hg', hF⟩
def sgnBits (x : Int) (k : Nat) : List Int := bitsOf (IntKind.u64.wrap x) k
def sgnBad (x : Int) (k : Nat) : Bool := !decide ((IntKind.i64.wrap (x * 2 ^ (64 - k))).fdiv (2 ^ (64 - k)) = x)
def numBits (x : Int) (k : Nat) : List Int := bitsOf (IntKind.u64.wrap x) k
def numBad (x : Int) (k : Nat) : Bool := !decide ((IntKind.u64.wrap x).fdiv (2 ^ (min k 64)) = 0)
def cmdBits (q b dx dy t : Int) : List Int := numBits q 16 ++ (numBits b 2 ++ ((sgnBits dx 8 ++ sgnBits dy 8) ++ numBits (IntKind.i64.wrap (t - 1)) 3))
def cmdBad (q b dx dy t : Int) : Bool := numBad q 16 || (numBad b 2 || ((sgnBad dx 8 || sgnBad dy 8) || numBad (IntKind.i64.wrap (t - 1)) 3))
set_option maxHeartbeats 2000000 in
set_option maxRecDepth 20000 in
theorem command40_c {B i tB : Nat} {C : Array Value} {q b dx dy t : Int} (h : WrAt w base A T (.bool wr) bs g) (hB : w.heap[B]? = some (.cells C tB (0, 0)))
  (h0 : C[i]? = some (.int .u16 q)) (h1 : C[i + 1]? = some (.int .u8 b)) (h2 : C[i + 2]? = some (.int .i8 dx)) (h3 : C[i + 3]? = some (.int .i8 dy)) (h4 : C[i + 4]? = some (.int .i64 t)) (hBA : B ≠ A) (hBg : g ≠ some B)
  (w0 : IntKind.u16.wrap (IntKind.u64.wrap q) = q) (w1 : IntKind.u8.wrap (IntKind.u64.wrap b) = b) (w2 : -128 ≤ dx ∧ dx < 128) (w3 : -128 ≤ dy ∧ dy < 128) (w4 : IntKind.i64.wrap (IntKind.i64.wrap (t - 1) + 1) = t) (w5 : IntKind.i64.wrap (IntKind.u64.wrap (IntKind.i64.wrap (t - 1))) = IntKind.i64.wrap (t - 1)) (hlen : bs.length + 37 ≤ 1125899906842000) :
  callV Tryz.prog 45 [wv A, .pointer (some ⟨B, i, none⟩)] w (WrP base A T wr bs g w (cmdBits q b dx dy t) (cmdBad q b dx dy t)) := by
 have hBl := lt_of_blk hB
 refine vc45 _ ⟨B, i, none⟩ w _ ?_
 refine (num41_c (k := 16) (by omega) h hB h0 hBA hBg w0 (by omega)).mono ?_
 rintro _ wa ⟨rfl, ga, hwa, hga, hfa⟩
 have hBa := hfa.keep hB (by rintro (e | e); exact hBA e; exact hBg e)
 have hBga := apart_of hBl hBg hga
 simp only [addr_add]
 refine (num60_c (k := 2) (by omega) hwa hBa h1 hBA hBga w1 (by rw [List.length_append, bitsOf_length]; omega)).mono ?_
 rintro _ wb ⟨rfl, gb, hwb, hgb, hfb⟩
 have hBb := hfb.keep hBa (by rintro (e | e); exact hBA e; exact hBga e)
 have hgbw := grow_trans hfa.size hga hgb
 have hFb := fm_trans hfa hga hfb
 have hBgb := apart_of hBl hBg hgbw
 rw [List.append_assoc, Bool.or_assoc] at hwb
 refine ⟨fun _ => True, trivial, ?_⟩
 simp only [vq, eqV, nilV, addr_add]
 refine build_2 (by rw [row163]) row162 rfl rfl rfl fun wc hbc hsc hfc => ?_
 have hFc' : Fm none' wb wc := (Fm.drew wb).trans hfc
 have hFc : Fm (fun i => i = A ∨ g = some i) w wc := hFb.trans hFc'.none
 have hwc := hwb.keep hFc' id fun _ _ y => y
 have hlc := hwb.lt
 simp only [vq, eqV, nilV]
 obtain ⟨S, hS⟩ : ∃ S, S = wb.heap.size := ⟨_, rfl⟩
 have hbc : wc.heap[S]? = some (.cells #[.pointer (some ⟨B, i + 2, none⟩), .pointer (some ⟨B, i + 3, none⟩)] 162 (0, 0)) := by rw [hS]; exact hbc
 obtain ⟨xs, hxs⟩ : ∃ xs : List Int, xs = [dx, dy] := ⟨_, rfl⟩
 have hxl : xs.length = 2 := by rw [hxs]; rfl
 have hcell : ∀ j, j < 2 → ∀ x, xs[j]? = some x → C[i + 2 + j]? = some (.int .i8 x) ∧ -128 ≤ x ∧ x < 128 := by
  intro j hj x hx
  rw [hxs] at hx
  match j, hj with
  | 0, _ => simp at hx; subst hx; exact ⟨h2, w2⟩
  | 1, _ => simp at hx; subst hx; exact ⟨h3, w3⟩
 have hgbS : gb ≠ some S := fun e => by have := hlc.2 _ e; omega
 refine ⟨fun u w' => ∃ (j : Nat) (g' : Option Nat), j ≤ 2 ∧ u 26 = .int .i64 j ∧ WrAt w' base A T (.bool (wr || (numBad q 16 || (numBad b 2 || (xs.take j).any fun x => sgnBad x 8)))) (bs ++ (numBits q 16 ++ (numBits b 2 ++ (xs.take j).flatMap fun x => sgnBits x 8))) g' ∧ (g' = g ∨ ∃ b, g' = some b ∧ w.heap.size ≤ b) ∧ g' ≠ some S ∧ Fm (fun i => i = A ∨ g = some i) w w' ∧
  w'.heap[S]? = some (.cells #[.pointer (some ⟨B, i + 2, none⟩), .pointer (some ⟨B, i + 3, none⟩)] 162 (0, 0)), fun u _ => 2 - (intOf (u 26)).toNat, ?_, ?_⟩
 ·refine ⟨0, gb, by omega, rfl, ?_, hgbw, hgbS, hFc, hbc⟩
  simp only [List.take_zero, List.any_nil, List.flatMap_nil, List.append_nil, Bool.or_false]
  exact hwc
 rintro u w29 ⟨j, g', hj, h26, hw, hg', hgS, hF, hbS⟩
 change u 26 = .int .i64 j at h26
 simp only [h26, vq, eqV, nilV]
 have hBg' := apart_of hBl hBg hg'
 have hB29 := hF.keep hB (by rintro (e | e); exact hBA e; exact hBg e)
 have hl29 := hw.lt
 have hSl := lt_of_blk hbS
 have hB29l := lt_of_blk hB29
 have hfl : ∀ l : List Int, (l.flatMap fun x => sgnBits x 8).length = 8 * l.length := by
  intro l
  induction l with
  | nil => rfl
  | cons y l ih => rw [List.flatMap_cons, List.length_append, ih, sgnBits, bitsOf_length, List.length_cons]; omega
 refine br_dec (fun hj2 => ?_) (fun hj2 => ?_)
 ·obtain ⟨x, hx⟩ : ∃ x, xs[j]? = some x := ⟨xs[j]'(by omega), by simp⟩
  obtain ⟨hcx, hxr⟩ := hcell j (by omega) x hx
  refine ⟨by omega, ?_⟩
  have hptr : w29.cell? ⟨S, j, none⟩ = some (.pointer (some ⟨B, i + 2 + j, none⟩)) := by
   match j, (show j < 2 by omega) with
   | 0, _ => exact cellOf hbS rfl
   | 1, _ => exact cellOf hbS rfl
  rw [show wb.drew.heap.size = S from hS.symm]
  simp only [addr_add, Nat.zero_add]
  refine rd_of hptr ?_
  simp only [vq, eqV, nilV]
  refine rd_of (v := .int .i8 x) (cellOf hB29 hcx) ?_
  simp only [vq, eqV, nilV]
  refine allocC_of fun w43 hb43 hs43 hf43 => ?_
  rw [w64 (by omega)]
  refine stC_one hb43 (by simp) rfl fun w44 hb44 hf44 => ?_
  have hF44 : Fm none' w29 w44 := hf43.trans' hf44 (by rintro i hi rfl; omega)
  have hw44 := hw.keep hF44 id fun _ _ y => y
  have hBs : w29.heap.size ≠ A := by omega
  refine meth_signed ?_
  refine (signed81_c (k := 8) (n := x) (by omega) hw44 (cellOf hb44 rfl) hBs (fun e => by have := hl29.2 _ e; exact absurd this (Nat.lt_irrefl _)) (by rw [List.length_append, List.length_append, List.length_append, hfl, numBits, numBits, bitsOf_length, bitsOf_length, List.length_take]; omega)).mono ?_
  rintro _ w50 ⟨rfl, g5, hw5, hg5, hf5⟩
  have hb5 := hf5.keep hb44 (by rintro (e | e); exact hBs e; have := hl29.2 _ e; omega)
  refine rd_of (v := .int .i64 x) (cellOf hb5 rfl) ?_
  simp only [vq, eqV, nilV]
  have hi8 : IntKind.i8.wrap x = x := by simp only [IntKind.wrap, IntKind.bits, IntKind.signed]; simp; split <;> omega
  rw [hi8]
  have hB5 := hf5.keep (hF44.keep hB29 id) (by rintro (e | e); exact hBA e; exact hBg' e)
  have hg5w : g5 = g ∨ ∃ b, g5 = some b ∧ w.heap.size ≤ b := grow_trans (Nat.le_trans hF.size hF44.size) hg' hg5
  refine stC_one hB5 (Array.getElem?_eq_some_iff.1 hcx).1 rfl fun w55 hB55 hf55 => ?_
  rw [set_same hcx] at hB55
  have hF55 : Fm (fun i => i = A ∨ g = some i) w w55 := by
   refine Fm.unturn (B := B) (((fm_trans (hF.trans hF44.none) hg' hf5).mono fun i _ e => .inl e).trans (hf55.mono fun i _ e => .inr e)) (hB55.trans hB.symm)
  have hg5S : g5 ≠ some S := apart_of (n := w44.heap.size) (by have := hF44.size; omega) hgS hg5
  have hBg5 := apart_of hBl hBg hg5w
  rw [w64 (n := (j : Int) + 1) (by omega)]
  refine ⟨⟨j + 1, g5, by omega, ?_, ?_, hg5w, hg5S, hF55, hf55.keep (hf5.keep (hF44.keep hbS id) (by rintro (e | e); omega; exact hgS e)) ?_⟩, ?_⟩
  ·rfl
  ·rw [List.take_add_one, hx]
   have e1 : ((xs.take j ++ [x]).flatMap fun x => sgnBits x 8) = ((xs.take j).flatMap fun x => sgnBits x 8) ++ bitsOf (IntKind.u64.wrap x) 8 := by simp [sgnBits]
   have e2 : (wr || (numBad q 16 || (numBad b 2 || (xs.take j ++ [x]).any fun x => sgnBad x 8))) = ((wr || (numBad q 16 || (numBad b 2 || (xs.take j).any fun x => sgnBad x 8))) || !decide ((IntKind.i64.wrap (x * 2 ^ (64 - 8))).fdiv (2 ^ (64 - 8)) = x)) := by
    simp only [List.any_append, List.any_cons, List.any_nil, Bool.or_false, sgnBad, Bool.or_assoc]
   simp only [Option.toList_some]
   rw [e1, e2]
   have hw5' := hw5.keep hf55 (fun e => hBA e.symm) (fun k hk e => hBg5 (by rw [hk, e]))
   simp only [List.append_assoc] at hw5' ⊢
   exact hw5'
  ·intro e
   have := hFb.size
   omega
  ·show 2 - ((j : Int) + 1).toNat < 2 - (j : Int).toNat; omega
 ·have : j = 2 := by omega
  subst this
  rw [List.take_of_length_le (by omega)] at hw
  refine rd_of (v := .int .i64 t) (cellOf hB29 h4) ?_
  simp only [vq, eqV, nilV]
  refine allocC_of fun w61 hb61 hs61 hf61 => ?_
  refine stC_one hb61 (by simp) rfl fun w62 hb62 hf62 => ?_
  have hF62 : Fm none' w29 w62 := hf61.trans' hf62 (by rintro i hi rfl; omega)
  have hw62 := hw.keep hF62 id fun _ _ y => y
  have hBs : w29.heap.size ≠ A := by omega
  refine (num30_c (k := 3) (by omega) hw62 hb62 rfl hBs (fun e => by have := hl29.2 _ e; omega) w5 (by rw [List.length_append, List.length_append, List.length_append, hfl, numBits, numBits, bitsOf_length, bitsOf_length]; omega)).mono ?_
  rintro _ w64' ⟨rfl, g5, hw5, hg5, hf5⟩
  have hb5 := hf5.keep hb62 (by rintro (e | e); exact hBs e; have := hl29.2 _ e; omega)
  refine rd_of (v := .int .i64 (IntKind.i64.wrap (t - 1))) (cellOf hb5 rfl) ?_
  simp only [vq, eqV, nilV, w4]
  have hB5 := hf5.keep (hF62.keep hB29 id) (by rintro (e | e); exact hBA e; exact hBg' e)
  refine stC_one hB5 (Array.getElem?_eq_some_iff.1 h4).1 rfl fun w67 hB67 hf67 => ?_
  rw [set_same h4] at hB67
  have hg5w : g5 = g ∨ ∃ b, g5 = some b ∧ w.heap.size ≤ b := grow_trans (Nat.le_trans hF.size hF62.size) hg' hg5
  have hBg5 := apart_of hBl hBg hg5w
  have hF67 : Fm (fun i => i = A ∨ g = some i) w w67 := by
   refine Fm.unturn (B := B) (((fm_trans (hF.trans hF62.none) hg' hf5).mono fun i _ e => .inl e).trans (hf67.mono fun i _ e => .inr e)) (hB67.trans hB.symm)
  refine ⟨rfl, g5, ?_, hg5w, hF67⟩
  have hw5' := hw5.keep hf67 (fun e => hBA e.symm) (fun k hk e => hBg5 (by rw [hk, e]))
  rw [hxs] at hw5'
  simp only [List.flatMap_cons, List.flatMap_nil, List.append_nil, List.any_cons, List.any_nil, Bool.or_false, List.append_assoc, Bool.or_assoc] at hw5'
  unfold cmdBits cmdBad
  simp only [List.append_assoc, Bool.or_assoc]
  exact hw5'
end Go.Proofs.YtipikchkbmgloaaGreatDoor
namespace Go.Proofs.YtipikchkbmgloaaGreatDoor
set_option linter.unusedSimpArgs false
set_option linter.unusedVariables false
open Go Go.RowKit VC
structure Msg where
 kind : Int
 seq : Int
 cq : Int
 cb : Int
 cdx : Int
 cdy : Int
 ct : Int
 prov : Int
 id : Int
 shot : Int
 d0 : Int
 d1 : Int
 d2 : Int
 why : Int
 p0 : Int
 p1 : Int
 p2 : Int
 v0 : Int
 v1 : Int
 v2 : Int
 tick : Int
 bse : Int
 bytes : List Int
def I64 (x : Int) : Prop := -9223372036854775808 ≤ x ∧ x ≤ 9223372036854775807
structure Mok (m : Msg) : Prop where
 kind : I64 m.kind
 seq : 0 ≤ m.seq ∧ m.seq < 65536
 cq : 0 ≤ m.cq ∧ m.cq < 65536
 cb : 0 ≤ m.cb ∧ m.cb < 256
 cdx : -128 ≤ m.cdx ∧ m.cdx < 128
 cdy : -128 ≤ m.cdy ∧ m.cdy < 128
 ct : I64 m.ct
 prov : 0 ≤ m.prov ∧ m.prov < 65536
 id : I64 m.id
 shot : I64 m.shot
 d0 : I64 m.d0
 d1 : I64 m.d1
 d2 : I64 m.d2
 why : I64 m.why
 p0 : I64 m.p0
 p1 : I64 m.p1
 p2 : I64 m.p2
 v0 : I64 m.v0
 v1 : I64 m.v1
 v2 : I64 m.v2
 tick : 0 ≤ m.tick ∧ m.tick < 4294967296
 bse : 0 ≤ m.bse ∧ m.bse < 4294967296
 bytes : ∀ y ∈ m.bytes, 0 ≤ y ∧ y < 256
def msgC (m : Msg) (p : Option Addr) (cp : Nat) : List Value :=
 [.int .i64 m.kind, .int .u16 m.seq, .int .u16 m.cq, .int .u8 m.cb, .int .i8 m.cdx, .int .i8 m.cdy, .int .i64 m.ct, .int .u16 m.prov, .int .i64 m.id, .int .i64 m.shot, .int .i64 m.d0, .int .i64 m.d1, .int .i64 m.d2, .int .i64 m.why,
  .int .i64 m.p0, .int .i64 m.p1, .int .i64 m.p2, .int .i64 m.v0, .int .i64 m.v1, .int .i64 m.v2, .int .u32 m.tick, .int .u32 m.bse, .slice p m.bytes.length cp]
theorem ne_of {α : Type} {l : List α} {j : Nat} {y : α} (h : l[j]? = some y) : l ≠ [] := by rintro rfl; simp at h
def fieldBits (m : Msg) : List Int :=
 if m.kind = 2 then cmdBits m.cq m.cb m.cdx m.cdy m.ct
 else if m.kind = 3 then numBits m.prov 16 ++ (numBits m.shot 1 ++ vecB [m.d0, m.d1, m.d2] 18)
 else if m.kind = 6 then numBits m.seq 16 ++ (vecB [m.p0, m.p1, m.p2] 32 ++ vecB [m.v0, m.v1, m.v2] 32)
 else if m.kind = 7 then numBits m.prov 16 ++ numBits m.id 31
 else if m.kind = 5 then numBits m.id 31
 else if m.kind = 8 then numBits m.prov 16 ++ numBits m.why 4
 else if m.kind = 9 then numBits m.tick 32 ++ (numBits m.bse 32 ++ (numBits m.bytes.length 10 ++ byteBits m.bytes))
 else []
def idBad (x : Int) : Bool := numBad x 31 || !decide (0 < x)
def whyBad (x : Int) : Bool := numBad x 4 || !(decide (1 ≤ x) && decide (x ≤ 10))
def fieldBad (m : Msg) : Bool :=
 if m.kind = 2 then cmdBad m.cq m.cb m.cdx m.cdy m.ct
 else if m.kind = 3 then numBad m.prov 16 || (numBad m.shot 1 || vecD [m.d0, m.d1, m.d2] 18 65536)
 else if m.kind = 6 then numBad m.seq 16 || (vecD [m.p0, m.p1, m.p2] 32 (-1) || vecD [m.v0, m.v1, m.v2] 32 (-1))
 else if m.kind = 7 then numBad m.prov 16 || idBad m.id
 else if m.kind = 5 then idBad m.id
 else if m.kind = 8 then numBad m.prov 16 || whyBad m.why
 else if m.kind = 9 then numBad m.tick 32 || (numBad m.bse 32 || numBad m.bytes.length 10)
 else false
def known (m : Msg) : Bool := decide (1 ≤ m.kind) && decide (m.kind ≤ 9)
theorem wr64 {x : Int} (h : I64 x) : IntKind.i64.wrap (IntKind.u64.wrap x) = x := by
 unfold I64 at h
 simp only [IntKind.wrap, IntKind.bits, IntKind.signed]
 simp
 split <;> omega
theorem wr16 {x : Int} (h : 0 ≤ x ∧ x < 65536) : IntKind.u16.wrap (IntKind.u64.wrap x) = x := by
 simp only [IntKind.wrap, IntKind.bits, IntKind.signed]; simp; omega
theorem wr8 {x : Int} (h : 0 ≤ x ∧ x < 256) : IntKind.u8.wrap (IntKind.u64.wrap x) = x := by
 simp only [IntKind.wrap, IntKind.bits, IntKind.signed]; simp; omega
theorem wr32 {x : Int} (h : 0 ≤ x ∧ x < 4294967296) : IntKind.u32.wrap (IntKind.u64.wrap x) = x := by
 simp only [IntKind.wrap, IntKind.bits, IntKind.signed]; simp; omega
theorem wrI (x : Int) : I64 (IntKind.i64.wrap x) := by
 unfold I64
 rw [IntKind.wrap_i64]; omega
theorem wrT {t : Int} (h : I64 t) : IntKind.i64.wrap (IntKind.i64.wrap (t - 1) + 1) = t := by
 unfold I64 at h
 rw [IntKind.wrap_i64, IntKind.wrap_i64]; omega
theorem nila_bytes {a : Addr} {w : World} {K : Prop} (k : K) : nilA Tryz.prog 80 (.pointer (some a)) "embrasure/message.bytes" w K := ⟨by kernel_rfl, k⟩
variable {w : World} {base A : Nat} {T : TypeId} {wr : Bool} {bs : List Int} {g : Option Nat}
theorem chain {f : FuncId} {args : List Value} {b1 : List Int} {d1 : Bool} {Q : Value → World → Prop} (h : callV Tryz.prog f args w (WrP base A T wr bs g w b1 d1))
  (k : ∀ g1 w1, WrAt w1 base A T (.bool (wr || d1)) (bs ++ b1) g1 → (g1 = g ∨ ∃ b, g1 = some b ∧ w.heap.size ≤ b) → Fm (fun i => i = A ∨ g = some i) w w1 → Q (.tuple #[]) w1) : callV Tryz.prog f args w Q :=
 h.mono fun v w1 ⟨e, g1, h1, h2, h3⟩ => by subst e; exact k g1 w1 h1 h2 h3
def FdP (base A : Nat) (T : TypeId) (wr : Bool) (bs : List Int) (g : Option Nat) (w : World) (m : Msg) (v : Value) (w' : World) : Prop := v = .bool (known m) ∧ WrP base A T wr bs g w (fieldBits m) (fieldBad m) (.tuple #[]) w'
theorem WrP.nil (h : WrAt w base A T (.bool wr) bs g) : WrP base A T wr bs g w [] false (.tuple #[]) w := ⟨rfl, g, by rw [List.append_nil, Bool.or_false]; exact h, .inl rfl, Fm.refl _ _⟩
set_option maxHeartbeats 2000000 in
set_option maxRecDepth 20000 in
theorem fields22_c {B tB cp : Nat} {p : Option Addr} {m : Msg} (h : WrAt w base A T (.bool wr) bs g) (hB : w.heap[B]? = some (.cells (msgC m p cp).toArray tB (0, 0))) (hm : Mok m) (hBA : B ≠ A) (hBg : g ≠ some B)
  (hy : ∀ j y, m.bytes[j]? = some y → ∃ ad, p = some ad ∧ ad.block ≠ A ∧ g ≠ some ad.block ∧ w.cell? (ad.add j) = some (.int .u8 y)) (hpl : ∀ ad, p = some ad → m.bytes ≠ [] → ad.block < w.heap.size) (hlen : bs.length + 8 * m.bytes.length + 1000 ≤ 1125899906842000) :
  callV Tryz.prog 20 [wv A, .pointer (some ⟨B, 0, none⟩)] w (FdP base A T wr bs g w m) := by
 have hBl := lt_of_blk hB
 refine vc20 _ ⟨B, 0, none⟩ w _ (rd_of (v := .int .i64 m.kind) (cellOf hB rfl) ?_)
 simp only [vq, eqV, nilV, addr_add, Nat.zero_add]
 have keepB : ∀ {w1 : World}, Fm (fun i => i = A ∨ g = some i) w w1 → w1.heap[B]? = some (.cells (msgC m p cp).toArray tB (0, 0)) := fun hf => hf.keep hB (by rintro (e | e); exact hBA e; exact hBg e)
 refine ⟨fun _ w' => w' = w ∧ m.kind = 8, ?_, ?_⟩
 ·refine br_dec (fun k1 => ?_) (fun k1 => ?_)
  ·refine ⟨by simp [known, k1], ?_⟩
   have : fieldBits m = [] ∧ fieldBad m = false := by unfold fieldBits fieldBad; rw [k1]; exact ⟨rfl, rfl⟩
   rw [this.1, this.2]; exact WrP.nil h
  refine br_dec (fun k4 => ?_) (fun k4 => ?_)
  ·refine ⟨by simp [known, k4], ?_⟩
   have : fieldBits m = [] ∧ fieldBad m = false := by unfold fieldBits fieldBad; rw [k4]; exact ⟨rfl, rfl⟩
   rw [this.1, this.2]; exact WrP.nil h
  refine br_dec (fun k2 => ?_) (fun k2 => ?_)
  ·have e1 : fieldBits m = cmdBits m.cq m.cb m.cdx m.cdy m.ct := by unfold fieldBits; rw [if_pos k2]
   have e2 : fieldBad m = cmdBad m.cq m.cb m.cdx m.cdy m.ct := by unfold fieldBad; rw [if_pos k2]
   refine (command40_c (i := 2) h hB rfl rfl rfl rfl rfl hBA hBg (wr16 hm.cq) (wr8 hm.cb) hm.cdx hm.cdy (wrT hm.ct) (wr64 (wrI _)) (by omega)).mono ?_
   rintro _ w4 h4
   refine ⟨by simp [known, k2], ?_⟩
   rw [e1, e2]
   obtain ⟨rfl, h4⟩ := h4
   exact ⟨rfl, h4⟩
  refine br_dec (fun k3 => ?_) (fun k3 => ?_)
  ·have e1 : fieldBits m = numBits m.prov 16 ++ (numBits m.shot 1 ++ vecB [m.d0, m.d1, m.d2] 18) := by unfold fieldBits; rw [if_neg k2, if_pos k3]
   have e2 : fieldBad m = (numBad m.prov 16 || (numBad m.shot 1 || vecD [m.d0, m.d1, m.d2] 18 65536)) := by unfold fieldBad; rw [if_neg k2, if_pos k3]
   refine chain (num41_c (k := 16) (by omega) h hB (i := 7) rfl hBA hBg (wr16 hm.prov) (by omega)) fun g1 w1 hw1 hg1 hf1 => ?_
   have b1 := apart_of hBl hBg hg1
   refine chain (num30_c (k := 1) (by omega) hw1 (keepB hf1) (i := 9) rfl hBA b1 (wr64 hm.shot) (by rw [List.length_append, bitsOf_length]; omega)) fun g2 w2 hw2 hg2 hf2 => ?_
   have hf2' := fm_trans hf1 hg1 hf2
   have hg2' := grow_trans hf1.size hg1 hg2
   refine (vec42_c (k := 18) (by omega) hw2 (keepB hf2') (i := 10) rfl rfl rfl hBA (apart_of hBl hBg hg2') (by rw [List.length_append, List.length_append, bitsOf_length, bitsOf_length]; omega)).mono ?_
   rintro _ w3 h3
   obtain rfl := h3.1
   refine ⟨by simp [known, k3], ?_⟩
   rw [e1, e2]
   exact WrP.seq hg1 hf1 (WrP.seq hg2 hf2 h3)
  refine br_dec (fun k6 => ?_) (fun k6 => ?_)
  ·have e1 : fieldBits m = numBits m.seq 16 ++ (vecB [m.p0, m.p1, m.p2] 32 ++ vecB [m.v0, m.v1, m.v2] 32) := by unfold fieldBits; rw [if_neg k2, if_neg k3, if_pos k6]
   have e2 : fieldBad m = (numBad m.seq 16 || (vecD [m.p0, m.p1, m.p2] 32 (-1) || vecD [m.v0, m.v1, m.v2] 32 (-1))) := by unfold fieldBad; rw [if_neg k2, if_neg k3, if_pos k6]
   refine chain (num41_c (k := 16) (by omega) h hB (i := 1) rfl hBA hBg (wr16 hm.seq) (by omega)) fun g1 w1 hw1 hg1 hf1 => ?_
   have b1 := apart_of hBl hBg hg1
   refine chain (vec42_c (k := 32) (by omega) hw1 (keepB hf1) (i := 14) rfl rfl rfl hBA b1 (by rw [List.length_append, bitsOf_length]; omega)) fun g2 w2 hw2 hg2 hf2 => ?_
   have hf2' := fm_trans hf1 hg1 hf2
   have hg2' := grow_trans hf1.size hg1 hg2
   refine (vec42_c (k := 32) (by omega) hw2 (keepB hf2') (i := 17) rfl rfl rfl hBA (apart_of hBl hBg hg2') (by rw [List.length_append, List.length_append, bitsOf_length]; simp only [vecB, vecBits, List.flatMap_cons, List.flatMap_nil, List.length_append, bitsOf_length, List.length_nil]; omega)).mono ?_
   rintro _ w3 h3
   obtain rfl := h3.1
   refine ⟨by simp [known, k6], ?_⟩
   rw [e1, e2]
   exact WrP.seq hg1 hf1 (WrP.seq hg2 hf2 h3)
  refine br_dec (fun k7 => ?_) (fun k7 => ?_)
  ·have e1 : fieldBits m = numBits m.prov 16 ++ numBits m.id 31 := by unfold fieldBits; rw [if_neg k2, if_neg k3, if_neg k6, if_pos k7]
   have e2 : fieldBad m = (numBad m.prov 16 || idBad m.id) := by unfold fieldBad; rw [if_neg k2, if_neg k3, if_neg k6, if_pos k7]
   refine chain (num41_c (k := 16) (by omega) h hB (i := 7) rfl hBA hBg (wr16 hm.prov) (by omega)) fun g1 w1 hw1 hg1 hf1 => ?_
   refine (id43_c hw1 (keepB hf1) (i := 8) rfl hBA (apart_of hBl hBg hg1) (wr64 hm.id) (by rw [List.length_append, bitsOf_length]; omega)).mono ?_
   rintro _ w3 h3
   obtain rfl := h3.1
   refine ⟨by simp [known, k7], ?_⟩
   rw [e1, e2]
   exact WrP.seq hg1 hf1 h3
  refine br_dec (fun k5 => ?_) (fun k5 => ?_)
  ·have e1 : fieldBits m = numBits m.id 31 := by unfold fieldBits; rw [if_neg k2, if_neg k3, if_neg k6, if_neg k7, if_pos k5]
   have e2 : fieldBad m = idBad m.id := by unfold fieldBad; rw [if_neg k2, if_neg k3, if_neg k6, if_neg k7, if_pos k5]
   refine (id43_c h hB (i := 8) rfl hBA hBg (wr64 hm.id) (by omega)).mono ?_
   rintro _ w3 h3
   obtain rfl := h3.1
   refine ⟨by simp [known, k5], ?_⟩
   rw [e1, e2]
   exact h3
  refine br_dec (fun k8 => ⟨rfl, k8⟩) (fun k8 => ?_)
  refine br_dec (fun k9 => ?_) (fun k9 => ?_)
  ·have e1 : fieldBits m = numBits m.tick 32 ++ (numBits m.bse 32 ++ (numBits m.bytes.length 10 ++ byteBits m.bytes)) := by unfold fieldBits; rw [if_neg k2, if_neg k3, if_neg k6, if_neg k7, if_neg k5, if_neg k8, if_pos k9]
   have e2 : fieldBad m = (numBad m.tick 32 || (numBad m.bse 32 || numBad m.bytes.length 10)) := by unfold fieldBad; rw [if_neg k2, if_neg k3, if_neg k6, if_neg k7, if_neg k5, if_neg k8, if_pos k9]
   refine chain (num45_c (k := 32) (by omega) h hB (i := 20) rfl hBA hBg (wr32 hm.tick) (by omega)) fun g1 w1 hw1 hg1 hf1 => ?_
   have b1 := apart_of hBl hBg hg1
   refine chain (num45_c (k := 32) (by omega) hw1 (keepB hf1) (i := 21) rfl hBA b1 (wr32 hm.bse) (by rw [List.length_append, bitsOf_length]; omega)) fun g2 w2 hw2 hg2 hf2 => ?_
   have hf2' := fm_trans hf1 hg1 hf2
   have hg2' := grow_trans hf1.size hg1 hg2
   have hw2' := hw2.keep (Fm.drew w2) id fun _ _ y => y
   have hF2 : Fm (fun i => i = A ∨ g = some i) w w2.drew := hf2'.trans (Fm.drew w2).none
   refine ⟨fun w' => w'.heap[B]? = some (.cells (msgC m p cp).toArray tB (0, 0)), keepB hF2, ?_⟩
   simp only [vq, eqV, nilV]
   refine nila_bytes ⟨fun _ _ => nila_bytes trivial, meth_bytes ?_⟩
   refine (bytes80_c (k := 10) (by omega) hw2' (keepB hF2) (i := 22) rfl hBA (apart_of hBl hBg hg2') ?_ (by simp only [List.length_append, bitsOf_length]; omega)).mono ?_
   ·intro j y hj
    obtain ⟨ad, e, h1, h2, h3⟩ := hy j y hj
    have hblk : (ad.add j).block = ad.block := by unfold Addr.add; split <;> rfl
    exact ⟨ad, e, h1, apart_of (hpl ad e (ne_of hj)) h2 hg2', hF2.cell h3 (by rw [hblk]; rintro (e | e); exact h1 e; exact h2 e)⟩
   rintro v3 w3 h3
   obtain ⟨rfl, g3, hw3, hg3, hf3⟩ := h3
   refine ⟨by simp [known, k9], ?_⟩
   rw [e1, e2]
   exact WrP.seq hg1 hf1 (WrP.seq hg2 (hf2.trans (Fm.drew w2).none) ⟨rfl, g3, hw3, hg3, hf3⟩)
  ·have hk : known m = false := by
    unfold known
    rw [Bool.and_eq_false_iff, decide_eq_false_iff_not, decide_eq_false_iff_not]
    omega
   refine ⟨by rw [hk], ?_⟩
   have : fieldBits m = [] ∧ fieldBad m = false := by
    unfold fieldBits fieldBad
    rw [if_neg k2, if_neg k3, if_neg k6, if_neg k7, if_neg k5, if_neg k8, if_neg k9, if_neg k2, if_neg k3, if_neg k6, if_neg k7, if_neg k5, if_neg k8, if_neg k9]
    exact ⟨rfl, rfl⟩
   rw [this.1, this.2]; exact WrP.nil h
 ·rintro u53 w54 ⟨e0, k8⟩
  obtain rfl : w = w54 := e0.symm
  have k2 : ¬ m.kind = 2 := by omega
  have k3 : ¬ m.kind = 3 := by omega
  have k6 : ¬ m.kind = 6 := by omega
  have k7 : ¬ m.kind = 7 := by omega
  have k5 : ¬ m.kind = 5 := by omega
  have e1 : fieldBits m = numBits m.prov 16 ++ numBits m.why 4 := by unfold fieldBits; rw [if_neg k2, if_neg k3, if_neg k6, if_neg k7, if_neg k5, if_pos k8]
  have e2 : fieldBad m = (numBad m.prov 16 || whyBad m.why) := by unfold fieldBad; rw [if_neg k2, if_neg k3, if_neg k6, if_neg k7, if_neg k5, if_pos k8]
  refine chain (num41_c (k := 16) (by omega) h hB (i := 7) rfl hBA hBg (wr16 hm.prov) (by omega)) fun g1 w1 hw1 hg1 hf1 => ?_
  refine chain (num44_c (k := 4) (by omega) hw1 (keepB hf1) (i := 13) rfl hBA (apart_of hBl hBg hg1) (wr64 hm.why) (by rw [List.length_append, bitsOf_length]; omega)) fun g2 w2 hw2 hg2 hf2 => ?_
  have hf2' := fm_trans hf1 hg1 hf2
  have hg2' := grow_trans hf1.size hg1 hg2
  have hw2' := hw2.keep (Fm.drew w2) id fun _ _ y => y
  have hF2 : Fm (fun i => i = A ∨ g = some i) w w2.drew := hf2'.trans (Fm.drew w2).none
  have fin : ∀ b : Bool, b = (decide (1 ≤ m.why) && decide (m.why ≤ 10)) → callV Tryz.prog 118 [.pointer (some ⟨A, 0, none⟩), .bool b] w2.drew fun v w' => w'.heap[B]? = some (.cells (msgC m p cp).toArray tB (0, 0)) ∧ FdP base A T wr bs g w m (.bool true) w' := by
   intro b hb
   refine (within83_c b hw2').mono ?_
   rintro v3 w3 h3
   have h3' := WrP.seq hg1 hf1 (WrP.seq hg2 (hf2.trans (Fm.drew w2).none) h3)
   obtain ⟨rfl, g3, hw3, hg3, hf3⟩ := h3
   refine ⟨hf3.keep (keepB hF2) (by rintro (e | e); exact hBA e; exact apart_of hBl hBg hg2' e), by simp [known, k8], ?_⟩
   rw [e1, e2]
   rw [List.append_nil] at h3'
   have : whyBad m.why = (numBad m.why 4 || !b) := by rw [hb]; rfl
   rw [this]
   exact h3'
  refine ⟨fun w' => w'.heap[B]? = some (.cells (msgC m p cp).toArray tB (0, 0)), keepB hF2, ?_⟩
  simp only [vq, eqV, nilV]
  refine rd_of (v := .int .i64 m.why) (cellOf (keepB hF2) rfl) ⟨fun w' hw => rd_of (cellOf hw rfl) rfl, ?_⟩
  simp only [vq, eqV, nilV]
  refine br_dec (fun hd1 => ?_) (fun hd1 => ?_)
  ·refine rd_of (v := .int .i64 m.why) (cellOf (keepB hF2) rfl) ⟨fun w' hw => rd_of (cellOf hw rfl) rfl, ?_⟩
   simp only [vq, eqV, nilV]
   refine nila_within ⟨fun _ _ => nila_within trivial, meth_within ?_⟩
   exact fin _ (by rw [decide_eq_true hd1]; rfl)
  ·refine nila_within ⟨fun _ _ => nila_within trivial, meth_within ?_⟩
   exact fin false (by rw [decide_eq_false hd1]; rfl)
end Go.Proofs.YtipikchkbmgloaaGreatDoor
namespace Go.Proofs.YtipikchkbmgloaaGreatDoor
set_option linter.unusedSimpArgs false
set_option linter.unusedVariables false
open Go Go.RowKit VC
def BytesAt (w : World) (p : Option Addr) (ys : List Int) : Prop := ∀ j y, ys[j]? = some y → ∃ ad, p = some ad ∧ w.cell? (ad.add j) = some (.int .u8 y)
theorem add_block (ad : Addr) (j : Nat) : (ad.add j).block = ad.block := by unfold Addr.add; split <;> rfl
theorem BytesAt.keep {w w' : World} {p : Option Addr} {ys : List Int} {S : Nat → Prop} (h : BytesAt w p ys) (f : Fm S w w') (hp : ∀ ad, p = some ad → ¬ S ad.block) : BytesAt w' p ys := fun j y hj => by
 obtain ⟨ad, e, hc⟩ := h j y hj
 exact ⟨ad, e, f.cell hc (by rw [add_block]; exact hp ad e)⟩
theorem BytesAt.of_own {w : World} {base : Nat} {p : Option Addr} {n c : Nat} {ys : List Int} (h : w.ownsRow base 5 1 (.slice p n c) n (ys.map (Value.int .u8))) : BytesAt w p ys := fun j y hj => by
 obtain ⟨p', cp', e, hr⟩ := own_read h
 cases e
 obtain ⟨g, hp, _, _, hc⟩ := hr j (.int .u8 y) (by rw [List.getElem?_map, hj]; rfl)
 exact ⟨_, hp, hc⟩
theorem clone46_c {w : World} {base c : Nat} {p : Option Addr} {ys : List Int} (h : BytesAt w p ys) (hb : base ≤ w.heap.size) (hl : ys.length ≤ 140737488355328) :
  callV Tryz.prog 18 [.slice p ys.length c] w fun v w' => w'.ownsRow base 5 1 v ys.length (ys.map (Value.int .u8)) ∧ (∀ i, v.ownBlock = some i → w.heap.size ≤ i) ∧ Fm none' w w' := by
 refine vc18 p ys.length c w _ ?_
 cases p with
 | none =>
  have : ys = [] := by
   cases ys with
   | nil => rfl
   | cons y ys => obtain ⟨_, e, _⟩ := h 0 y rfl; cases e
  subst this
  exact ⟨⟨rfl, .inl ⟨rfl, rfl⟩⟩, (fun i e => by cases e), Fm.refl _ _⟩
 | some ad =>
  change runs _ _ _ _
  refine build_none (by rw [row39]) row5 fun s w1 hs hs1 hf1 => ?_
  obtain ⟨p1, c1, rfl, -⟩ := own_read hs
  refine append_at (base := w.heap.size) (news := ys.map (Value.int .u8)) (by rw [row39]) row5 rfl hs (by simp) (fun j u hj => ?_) (by simp [Value.oneCell']) hf1.size (by simp only [maxLen]; omega) (by omega) fun v w2 hv hf2 hbk => ?_
  ·rw [List.getElem?_map, Option.map_eq_some_iff] at hj
   obtain ⟨y, hy, rfl⟩ := hj
   obtain ⟨ad', e, hc⟩ := h j y hy
   cases e
   exact hf1.cell hc id
  ·obtain ⟨p2, c2, rfl, -⟩ := own_read hv
   simp only [List.nil_append, Nat.zero_add] at hv
   have hfr : ∀ i, (Value.slice p1 0 c1).ownBlock = some i → w.heap.size ≤ i := fun i hi => (own_block hs hi).1
   rw [Nat.zero_add]
   refine ⟨own_base hv hb, ?_, hf1.trans' hf2 fun i hi e => by have := hfr i e; omega⟩
   intro i hi
   rcases hbk with e | e
   ·rw [Nat.zero_add] at e; exact hfr i (e ▸ hi)
   ·rw [Nat.zero_add] at e; rw [e] at hi; cases hi; exact hf1.size
theorem and1 (k : IntKind) (hk : k = .u64 ∨ k = .u8) (a : Int) : andI k a 1 = a % 2 := by
 have hn : ∀ n : Nat, (BitVec.ofInt n a &&& BitVec.ofInt n 1).toNat = (BitVec.ofInt n a).toNat &&& (BitVec.ofInt n 1).toNat := fun n => BitVec.toNat_and ..
 unfold andI
 rw [hn]
 rcases hk with rfl | rfl
 ·rw [show (BitVec.ofInt IntKind.u64.bits 1).toNat = 1 from rfl, Nat.and_one_is_mod, BitVec.toNat_ofInt]
  simp only [IntKind.wrap, IntKind.bits, IntKind.signed]
  simp; omega
 ·rw [show (BitVec.ofInt IntKind.u8.bits 1).toNat = 1 from rfl, Nat.and_one_is_mod, BitVec.toNat_ofInt]
  simp only [IntKind.wrap, IntKind.bits, IntKind.signed]
  simp; omega
theorem bitAt_eq (n : Int) (i : Nat) : bitAt n i = (n.fdiv (2 ^ (min i 64))) % 2 := by
 unfold bitAt
 rw [and1 _ (.inl rfl)]
 simp only [IntKind.wrap, IntKind.bits, IntKind.signed]
 simp; omega
def Bit (b : Int) : Prop := b = 0 ∨ b = 1
theorem bitAt_bit (n : Int) (i : Nat) : Bit (bitAt n i) := by rw [bitAt_eq]; unfold Bit; omega
theorem bitsOf_bit (n : Int) (k : Nat) : ∀ b ∈ bitsOf n k, Bit b := by
 intro b hb
 simp only [bitsOf, List.mem_map] at hb
 obtain ⟨j, _, rfl⟩ := hb
 exact bitAt_bit _ _
theorem byteBits_bit (ys : List Int) : ∀ b ∈ byteBits ys, Bit b := by
 intro b hb
 simp only [byteBits, List.mem_flatMap] at hb
 obtain ⟨y, _, hb⟩ := hb
 exact bitsOf_bit _ _ _ hb
theorem byteBits_get : ∀ (ys : List Int) (i : Nat) (y : Int), ys[i / 8]? = some y → (byteBits ys)[i]? = some (bitAt (IntKind.u64.wrap y) (7 - i % 8)) := by
 intro ys
 induction ys with
 | nil => intro i y h; simp at h
 | cons z ys ih =>
  intro i y h
  have e : byteBits (z :: ys) = bitsOf (IntKind.u64.wrap z) 8 ++ byteBits ys := rfl
  rw [e]
  by_cases hi : i < 8
  ·rw [List.getElem?_append_left (by rw [bitsOf_length]; exact hi)]
   rw [show i / 8 = 0 by omega] at h
   simp only [List.getElem?_cons_zero, Option.some.injEq] at h
   subst h
   simp only [bitsOf, List.getElem?_map, List.getElem?_range hi, Option.map_some]
   rw [show i % 8 = i by omega]
  ·rw [List.getElem?_append_right (by rw [bitsOf_length]; omega), bitsOf_length]
   have := ih (i - 8) y (by rw [show (i - 8) / 8 = i / 8 - 1 by omega]; rw [show i / 8 = (i / 8 - 1) + 1 by omega, List.getElem?_cons_succ] at h; exact h)
   rw [this, show (i - 8) % 8 = i % 8 by omega]
def val (bs : List Int) : Int := bs.foldl (fun n b => 2 * n + b) 0
theorem val_snoc (bs : List Int) (b : Int) : val (bs ++ [b]) = 2 * val bs + b := by simp [val]
theorem val_lt : ∀ (n : Nat) (bs : List Int), bs.length = n → (∀ b ∈ bs, Bit b) → 0 ≤ val bs ∧ val bs < 2 ^ n := by
 intro n
 induction n with
 | zero =>
      intro bs h _; have : bs = [] := by simpa using h
      subst this; simp [val]
 | succ n ih =>
  intro bs h hb
  have hne : bs ≠ [] := by rintro rfl; cases h
  obtain ⟨cs, b, rfl⟩ : ∃ cs b, bs = cs ++ [b] := ⟨bs.dropLast, bs.getLast hne, (List.dropLast_concat_getLast hne).symm⟩
  rw [val_snoc]
  have h1 := ih cs (by simpa using h) fun x hx => hb x (List.mem_append_left _ hx)
  have h2 : Bit b := hb b (by simp)
  rw [Int.pow_succ]
  unfold Bit at h2
  omega
def getR (k : Nat) (rem : List Int) : Int × List Int × Bool := if rem.length < k then (0, [], false) else (val (rem.take k), rem.drop k, true)
def BrAt (w : World) (base R : Nat) (rem : List Int) (g : Option Nat) : Prop :=
 ∃ (v : Value) (Y : List Int) (n : Nat), w.heap[R]? = some (.cells #[v, .int .i64 n] 140 (0, 0)) ∧ w.ownsRow base 5 1 v Y.length (Y.map (Value.int .u8)) ∧ v.ownBlock = g ∧ g ≠ some R ∧ n ≤ 8 * Y.length ∧ rem = (byteBits Y).drop n ∧ (∀ y ∈ Y, 0 ≤ y ∧ y < 256) ∧ Y.length ≤ 140737488355328
theorem BrAt.keep {w w' : World} {base R : Nat} {rem : List Int} {g : Option Nat} {S : Nat → Prop} (h : BrAt w base R rem g) (f : Fm S w w') (hR : ¬ S R) (hg : ∀ i, g = some i → ¬ S i) : BrAt w' base R rem g := by
 obtain ⟨v, Y, n, h1, h2, h3, h4⟩ := h
 exact ⟨v, Y, n, f.keep h1 hR, f.owns h2 fun i hi => hg i (h3 ▸ hi), h3, h4⟩
variable {w : World} {base A R : Nat} {rem : List Int} {g : Option Nat}
theorem BrAt.lt (h : BrAt w base R rem g) : R < w.heap.size ∧ (∀ i, g = some i → i < w.heap.size) := by
 obtain ⟨v, Y, n, h1, h2, h3, h4⟩ := h
 exact ⟨lt_of_blk h1, fun i hi => by obtain ⟨_, cur, hc⟩ := own_block h2 (h3.trans hi); exact lt_of_blk hc⟩
theorem BrAt.bits (h : BrAt w base R rem g) : ∀ b ∈ rem, Bit b := by
 obtain ⟨v, Y, n, h1, h2, h3, h4, h5, rfl, _⟩ := h
 exact fun b hb => byteBits_bit Y b (List.mem_of_mem_drop hb)
theorem left53_c (h : BrAt w base R rem g) : callV Tryz.prog 89 [.pointer (some ⟨R, 0, none⟩)] w fun v w' => v = .int .i64 rem.length ∧ w' = w.drew := by
 obtain ⟨v, Y, n, h1, h2, h3, h4, h5, rfl, h6, h7⟩ := h
 obtain ⟨p, cp, rfl, -⟩ := own_read h2
 have h1' : w.drew.heap[R]? = some (.cells #[.slice p Y.length cp, .int .i64 n] 140 (0, 0)) := h1
 refine vc89 ⟨R, 0, none⟩ w _ ?_
 refine rd_of (v := .slice p Y.length cp) (cellOf h1' rfl) ?_
 simp only [vq, eqV, nilV, addr_add, Nat.zero_add]
 refine rd_of (v := .int .i64 n) (cellOf h1' rfl) ?_
 simp only [vq, eqV, nilV]
 rw [w64 (n := (Y.length : Int) * 8) (by omega), w64 (by omega), List.length_drop, byteBits_length]
 congr 1; omega
theorem bit52_c {Y : List Int} {v : Value} {n m : Nat} {b : Int} (h1 : w.heap[R]? = some (.cells #[v, .int .i64 n] 140 (0, 0))) (h2 : w.ownsRow base 5 1 v Y.length (Y.map (Value.int .u8))) (h6 : ∀ y ∈ Y, 0 ≤ y ∧ y < 256) (h7 : Y.length ≤ 140737488355328) (hm : (byteBits Y)[m]? = some b) :
  callV Tryz.prog 88 [.pointer (some ⟨R, 0, none⟩), .int .i64 m] w fun v w' => v = .int .u64 b ∧ w' = w := by
 have hml : m < 8 * Y.length := by have := (List.getElem?_eq_some_iff.1 hm).1; rwa [byteBits_length] at this
 obtain ⟨y, hy⟩ : ∃ y, Y[m / 8]? = some y := ⟨Y[m / 8]'(by omega), by simp⟩
 rw [byteBits_get Y m y hy] at hm
 obtain ⟨p, cp, rfl, hr⟩ := own_read h2
 obtain ⟨gg, rfl, _, _, hc⟩ := hr (m / 8) (.int .u8 y) (by rw [List.getElem?_map, hy]; rfl)
 have hyr := h6 y (List.mem_of_getElem? hy)
 refine vc88 ⟨R, 0, none⟩ m w _ ?_
 refine rd_of (v := .slice (some ⟨gg, 0, none⟩) Y.length cp) (cellOf h1 rfl) ?_
 have htd : Int.tdiv (m : Int) 8 = ((m / 8 : Nat) : Int) := by rw [Int.tdiv_eq_ediv_of_nonneg (by omega)]; omega
 have htm : Int.tmod (m : Int) 8 = ((m % 8 : Nat) : Int) := by rw [Int.tmod_eq_emod_of_nonneg (by omega)]; omega
 simp only [vq, eqV, nilV, htd, htm]
 rw [w64 (by omega), w64 (n := 7 - _) (by omega), show ((7 : Int) - ((m % 8 : Nat) : Int)) = ((7 - m % 8 : Nat) : Int) by omega]
 simp only [vq, eqV, nilV]
 refine ⟨by omega, rd_of hc ?_⟩
 simp only [vq, eqV, nilV]
 cases hm
 rw [bitAt_eq, and1 _ (.inr rfl)]
 rw [show min (7 - m % 8) IntKind.u8.bits = 7 - m % 8 from Nat.min_eq_left (by have : IntKind.u8.bits = 8 := rfl; omega), Nat.min_eq_left (by omega)]
 rw [show IntKind.u64.wrap y = y by (simp only [IntKind.wrap, IntKind.bits, IntKind.signed]; simp; omega)]
 congr 1
 simp only [IntKind.wrap, IntKind.bits, IntKind.signed]
 simp; omega
end Go.Proofs.YtipikchkbmgloaaGreatDoor
namespace Go.Proofs.YtipikchkbmgloaaGreatDoor
set_option linter.unusedSimpArgs false
set_option linter.unusedVariables false
open Go Go.RowKit VC
variable {w : World} {base A R : Nat} {rem : List Int} {g : Option Nat}
theorem stC_mono {w : World} {a : Addr} {vs : List Value} {K K' : World → Prop} (h : stC w a vs K) (k : ∀ w', K w' → K' w') : stC w a vs K' := ⟨h.1, fun w' e => k w' (h.2 w' e)⟩
theorem or_bit {n b : Int} (h0 : 0 ≤ n) (h1 : n < 9223372036854775808) (hb : Bit b) : orI .u64 (IntKind.u64.wrap (n * 2)) b = 2 * n + b := by
 obtain ⟨m, rfl⟩ : ∃ m : Nat, n = m := ⟨n.toNat, by omega⟩
 have e1 : IntKind.u64.wrap ((m : Int) * 2) = ((2 * m : Nat) : Int) := by simp only [IntKind.wrap, IntKind.bits, IntKind.signed]; simp; omega
 have e2 : ∀ x : Nat, x < 18446744073709551616 → (BitVec.ofInt IntKind.u64.bits (x : Int)).toNat = x := by
  intro x hx
  rw [BitVec.toNat_ofInt]
  simp only [IntKind.bits]
  omega
 have e3 : ∀ x : Nat, x < 18446744073709551616 → IntKind.u64.wrap (x : Int) = x := by
  intro x hx
  simp only [IntKind.wrap, IntKind.bits, IntKind.signed]; simp; omega
 rw [e1]
 unfold orI
 rw [BitVec.toNat_or, e2 _ (by omega)]
 rcases hb with rfl | rfl
 ·rw [show (BitVec.ofInt IntKind.u64.bits 0).toNat = 0 from rfl, Nat.or_zero, e3 _ (by omega)]; omega
 ·rw [show (BitVec.ofInt IntKind.u64.bits 1).toNat = 1 from rfl]
  have : 2 * m ||| 1 = 2 * m + 1 := (Nat.two_pow_add_eq_or_of_lt (i := 1) (b := 1) (by omega) m).symm
  rw [this, e3 _ (by omega)]; omega
set_option maxRecDepth 20000 in
theorem get89_c {k : Nat} (hk : k ≤ 64) (h : BrAt w base R rem g) :
  callV Tryz.prog 124 [.pointer (some ⟨R, 0, none⟩), .int .i64 k] w fun v w' => v = .tuple #[.int .u64 (getR k rem).1, .bool (getR k rem).2.2] ∧ BrAt w' base R (getR k rem).2.1 g ∧ Fm (fun i => i = R) w w' := by
 refine vc124 ⟨R, 0, none⟩ k w _ ?_
 refine vc83 _ w _ ?_
 rw [show max 0 (min (k : Int) 64) = k by omega]
 simp only [vq, eqV, nilV]
 refine (left53_c h).mono ?_
 rintro _ w1 ⟨rfl, rfl⟩
 simp only [vq, eqV, nilV]
 have hd := h.keep (Fm.drew w) id fun _ _ y => y
 obtain ⟨v, Y, n, h1, h2, h3, h4, h5, h5', h6, h7⟩ := hd
 have hrl : rem.length = 8 * Y.length - n := by rw [h5', List.length_drop, byteBits_length]
 refine br_dec (fun hs => ?_) (fun hs => ?_)
 ·have hg : getR k rem = (0, [], false) := by unfold getR; rw [if_pos (by omega)]
  rw [hg]
  have h1d : w.drew.drew.heap[R]? = some (.cells #[v, .int .i64 n] 140 (0, 0)) := h1
  have hbr : BrAt w.drew.drew base R rem g := h.keep ((Fm.drew w).trans (Fm.drew _)) id fun _ _ y => y
  have hF : Fm (fun i => i = R) w w.drew.drew := ((Fm.drew w).trans (Fm.drew _)).none
  have fin : ∀ w18 : World, w18.heap[R]? = some (.cells #[v, .int .i64 n] 140 (0, 0)) → Fm none' w w18 → stC w18 ⟨R, 1, none⟩ [.int .i64 (IntKind.i64.wrap ((n : Int) + rem.length))] fun w26 => w26.heap.size = w26.heap.size ∧ BrAt w26 base R [] g ∧ Fm (fun i => i = R) w w26 := by
   intro w18 h18 hf18
   refine stC_one h18 (by simp) rfl fun w26 hb26 hf26 => ⟨rfl, ⟨v, Y, 8 * Y.length, ?_, ?_, h3, h4, Nat.le_refl _, ?_, h6, h7⟩, hf18.none.trans hf26⟩
   ·rw [hb26, w64 (by omega), show ((n : Int) + (rem.length : Int)) = ((8 * Y.length : Nat) : Int) by omega]
    rfl
   ·have h2' : w18.ownsRow base 5 1 v Y.length (Y.map (Value.int .u8)) := by
     refine hf18.owns ?_ fun _ _ y => y
     obtain ⟨a1, a2⟩ := h2
     exact ⟨a1, a2⟩
    exact hf26.owns h2' fun i hi e => h4 (by rw [← h3, hi, e])
   ·rw [List.drop_of_length_le (by rw [byteBits_length]; omega)]
  have hc1 : w.drew.drew.cell? ⟨R, 1, none⟩ = some (.int .i64 n) := cellOf h1d rfl
  refine ⟨fun w' => w'.cell? ⟨R, 1, none⟩ = some (.int .i64 n), hc1, ?_⟩
  simp only [addr_add, Nat.zero_add, hc1, vq, eqV, nilV]
  refine ⟨fun w' hw => by rw [hw]; rfl, ?_⟩
  refine (left53_c hbr).mono ?_
  rintro _ w2 ⟨rfl, rfl⟩
  simp only [vq, eqV, nilV]
  refine ⟨hc1, (stC_mono (fin w.drew.drew.drew h1d (((Fm.drew w).trans (Fm.drew _)).trans (Fm.drew _))) ?_)⟩
  rintro w26 ⟨_, a, b⟩
  exact ⟨a, b⟩
 ·have hg : getR k rem = (val (rem.take k), rem.drop k, true) := by unfold getR; rw [if_neg (by omega)]
  rw [hg]
  have hbits := h.bits
  refine ⟨fun u w' => ∃ j : Nat, j ≤ k ∧ u 4 = .int .u64 (val (rem.take j)) ∧ u 22 = .int .i64 j ∧ w'.heap[R]? = some (.cells #[v, .int .i64 ((n + j : Nat) : Int)] 140 (0, 0)) ∧ Fm (fun i => i = R) w w', fun u _ => k - (intOf (u 22)).toNat, ⟨0, by omega, rfl, rfl, h1, (Fm.drew w).none⟩, ?_⟩
  rintro u w42 ⟨j, hj, h4', h22, hR, hF⟩
  change u 4 = .int .u64 _ at h4'
  change u 22 = .int .i64 j at h22
  have hown : w42.ownsRow base 5 1 v Y.length (Y.map (Value.int .u8)) := (hF.owns (v := v) (w := w) (by obtain ⟨a1, a2⟩ := h2; exact ⟨a1, a2⟩) fun i hi e => h4 (by rw [← h3, hi, e]))
  simp only [h4', h22, vq, eqV, nilV]
  refine br_dec (fun hjk => ?_) (fun hjk => ?_)
  ·obtain ⟨b, hb⟩ : ∃ b, rem[j]? = some b := ⟨rem[j]'(by omega), by simp⟩
   have hb' : (byteBits Y)[n + j]? = some b := by rw [h5', List.getElem?_drop] at hb; exact hb
   simp only [addr_add, Nat.zero_add]
   refine rd_of (v := .int .i64 ((n + j : Nat) : Int)) (cellOf hR rfl) ?_
   simp only [vq, eqV, nilV]
   refine (bit52_c hR hown h6 h7 hb').mono ?_
   rintro _ w50 ⟨rfl, rfl⟩
   simp only [vq, eqV, nilV]
   refine rd_of (v := .int .i64 ((n + j : Nat) : Int)) (cellOf hR rfl) ?_
   simp only [vq, eqV, nilV]
   refine stC_one hR (by simp) rfl fun w54 hR54 hf54 => ?_
   have hv := val_lt j (rem.take j) (by rw [List.length_take]; omega) fun x hx => hbits x (List.mem_of_mem_take hx)
   have hp : (2 : Int) ^ j ≤ 2 ^ 63 := by exact_mod_cast (Nat.pow_le_pow_right (n := 2) (by omega) (show j ≤ 63 by omega))
   rw [w64 (n := (j : Int) + 1) (by omega)]
   rw [w64 (by omega)] at hR54
   refine ⟨⟨j + 1, by omega, ?_, rfl, ?_, hF.trans hf54⟩, ?_⟩
   ·show Value.int .u64 _ = _
    rw [or_bit hv.1 (by omega) (hbits b (List.mem_of_getElem? hb)), List.take_add_one, hb, Option.toList_some, val_snoc]
   ·rw [hR54]
    simp only [List.setIfInBounds_toArray, List.set_cons_succ, List.set_cons_zero]
    congr 5
   ·show k - ((j : Int) + 1).toNat < k - (j : Int).toNat; omega
  ·have : j = k := by omega
   subst this
   refine ⟨rfl, ⟨v, Y, n + j, hR, hown, h3, h4, by omega, ?_, h6, h7⟩, hF⟩
   rw [h5', List.drop_drop]
def sgn (k : Nat) (n : Int) : Int := (IntKind.i64.wrap (IntKind.u64.wrap (n * 2 ^ (64 - k)))).fdiv (2 ^ (64 - k))
theorem sign88_c {k : Nat} (hk : k ≤ 64) (h : BrAt w base R rem g) :
  callV Tryz.prog 123 [.pointer (some ⟨R, 0, none⟩), .int .i64 k] w fun v w' => v = .tuple #[.int .i64 (sgn k (getR k rem).1), .bool (getR k rem).2.2] ∧ BrAt w' base R (getR k rem).2.1 g ∧ Fm (fun i => i = R) w w' := by
 refine vc123 ⟨R, 0, none⟩ k w _ ?_
 refine (get89_c hk h).mono ?_
 rintro _ w1 ⟨rfl, h1, hf1⟩
 simp only [vq, eqV, nilV, List.getElem?_cons_zero, List.getElem?_cons_succ]
 refine vc83 _ w1 _ ?_
 rw [show max 0 (min (k : Int) 64) = k by omega]
 simp only [vq, eqV, nilV]
 rw [w64 (by omega), show ((64 : Int) - (k : Int)) = ((64 - k : Nat) : Int) by omega]
 simp only [vq, eqV, nilV]
 refine ⟨?_, h1, hf1⟩
 rw [show min (64 - k) IntKind.u64.bits = 64 - k from Nat.min_eq_left (by have : IntKind.u64.bits = 64 := rfl; omega), show min (64 - k) IntKind.i64.bits = 64 - k from Nat.min_eq_left (by have : IntKind.i64.bits = 64 := rfl; omega)]
 rfl
structure RS where
 rem : List Int
 e : Int
def failE (e : Int) (ok : Bool) (n : Int) : Int := if ok = false ∧ e = 0 then n else e
def rdW (k : Nat) (s : RS) : Int × RS := ((getR k s.rem).1, ⟨(getR k s.rem).2.1, failE s.e (getR k s.rem).2.2 2⟩)
def rdS (k : Nat) (s : RS) : Int × RS := (sgn k (getR k s.rem).1, ⟨(getR k s.rem).2.1, failE s.e (getR k s.rem).2.2 2⟩)
def rdF (ok : Bool) (s : RS) : RS := ⟨s.rem, failE s.e ok 3⟩
def RdAt (w : World) (base A R : Nat) (s : RS) (g : Option Nat) : Prop :=
 w.heap[A]? = some (.cells #[.pointer (some ⟨R, 0, none⟩), .int .i64 s.e] 92 (0, 0)) ∧ A ≠ R ∧ g ≠ some A ∧ BrAt w base R s.rem g
theorem RdAt.keep {w w' : World} {base A R : Nat} {s : RS} {g : Option Nat} {S : Nat → Prop} (h : RdAt w base A R s g) (f : Fm S w w') (hA : ¬ S A) (hR : ¬ S R) (hg : ∀ i, g = some i → ¬ S i) : RdAt w' base A R s g :=
 ⟨f.keep h.1 hA, h.2.1, h.2.2.1, h.2.2.2.keep f hR hg⟩
theorem RdAt.lt {s : RS} (h : RdAt w base A R s g) : A < w.heap.size ∧ R < w.heap.size ∧ (∀ i, g = some i → i < w.heap.size) := ⟨lt_of_blk h.1, h.2.2.2.lt.1, h.2.2.2.lt.2⟩
variable {s : RS}
theorem fail51_c (ok : Bool) (n : Int) (h : RdAt w base A R s g) : callV Tryz.prog 87 [.pointer (some ⟨A, 0, none⟩), .bool ok, .int .i64 n] w fun v w' => v = .tuple #[] ∧ RdAt w' base A R ⟨s.rem, failE s.e ok n⟩ g ∧ Fm (fun i => i = A) w w' := by
 refine vc87 ⟨A, 0, none⟩ ok n w _ ?_
 obtain ⟨h1, h2, h3, h4⟩ := h
 cases ok with
 | true =>
  show _ ∧ _
  refine ⟨rfl, ⟨?_, h2, h3, h4⟩, Fm.refl _ _⟩
  simp only [failE, Bool.true_eq_false, false_and, if_false]; exact h1
 | false =>
  simp only [vq, eqV, nilV, Bool.not_false, addr_add, Nat.zero_add]
  refine rd_of (v := .int .i64 s.e) (cellOf h1 rfl) ?_
  simp only [vq, eqV, nilV]
  refine br_dec (fun he => ?_) (fun he => ?_)
  ·refine stC_one h1 (by simp) rfl fun w2 hA hf => ⟨⟨?_, h2, h3, h4.keep hf (fun e => h2 e.symm) fun i hi e => h3 (by rw [hi, e])⟩, hf⟩
   simp only [failE, he, and_self, if_true]; exact hA
  ·refine ⟨⟨?_, h2, h3, h4⟩, Fm.refl _ _⟩
   simp only [failE, he, and_false, if_false]; exact h1
theorem within31_c (ok : Bool) (h : RdAt w base A R s g) : callV Tryz.prog 75 [.pointer (some ⟨A, 0, none⟩), .bool ok] w fun v w' => v = .tuple #[] ∧ RdAt w' base A R (rdF ok s) g ∧ Fm (fun i => i = A) w w' := by
 refine vc75 ⟨A, 0, none⟩ ok w _ ?_
 refine (fail51_c ok 3 h).mono ?_
 rintro _ w1 ⟨rfl, h1, hf⟩
 exact ⟨rfl, h1, hf⟩
def RdP (base A R B tB : Nat) (g : Option Nat) (w : World) (s : RS) (C : Array Value) (v : Value) (w' : World) : Prop :=
 v = .tuple #[] ∧ RdAt w' base A R s g ∧ w'.heap[B]? = some (.cells C tB (0, 0)) ∧ Fm (fun i => i = A ∨ i = R ∨ i = B) w w'
theorem whole87_c {B i tB k : Nat} {C : Array Value} (hk : k ≤ 64) (h : RdAt w base A R s g) (hB : w.heap[B]? = some (.cells C tB (0, 0))) (hi : i < C.size) (hBA : B ≠ A) (hBR : B ≠ R) (hBg : g ≠ some B) :
  callV Tryz.prog 122 [.pointer (some ⟨A, 0, none⟩), .pointer (some ⟨B, i, none⟩), .int .i64 k] w (RdP base A R B tB g w (rdW k s).2 (C.setIfInBounds i (.int .u64 (rdW k s).1))) := by
 obtain ⟨h1, h2, h3, h4⟩ := h
 refine vc122 ⟨A, 0, none⟩ ⟨B, i, none⟩ k w _ (rd_of (v := .pointer (some ⟨R, 0, none⟩)) (cellOf h1 rfl) ?_)
 simp only [vq, eqV, nilV]
 refine (get89_c hk h4).mono ?_
 rintro _ w3 ⟨rfl, h5, hf3⟩
 simp only [vq, eqV, nilV, List.getElem?_cons_zero, List.getElem?_cons_succ]
 refine (fail51_c _ 2 (s := ⟨(getR k s.rem).2.1, s.e⟩) ⟨hf3.keep h1 h2, h2, h3, h5⟩).mono ?_
 rintro _ w11 ⟨rfl, h6, hf11⟩
 have hB11 := hf11.keep (hf3.keep hB hBR) hBA
 refine stC_one hB11 hi rfl fun w12 hB12 hf12 => ⟨rfl, h6.keep hf12 (fun e => hBA e.symm) (fun e => hBR e.symm) (fun j hj e => hBg (by rw [hj, e])), hB12, ?_⟩
 exact ((hf3.mono fun i _ e => .inr (.inl e)).trans (hf11.mono fun i _ e => .inl e)).trans (hf12.mono fun i _ e => .inr (.inr e))
theorem signed86_c {B i tB k : Nat} {C : Array Value} (hk : k ≤ 64) (h : RdAt w base A R s g) (hB : w.heap[B]? = some (.cells C tB (0, 0))) (hi : i < C.size) (hBA : B ≠ A) (hBR : B ≠ R) (hBg : g ≠ some B) :
  callV Tryz.prog 121 [.pointer (some ⟨A, 0, none⟩), .pointer (some ⟨B, i, none⟩), .int .i64 k] w (RdP base A R B tB g w (rdS k s).2 (C.setIfInBounds i (.int .i64 (rdS k s).1))) := by
 obtain ⟨h1, h2, h3, h4⟩ := h
 refine vc121 ⟨A, 0, none⟩ ⟨B, i, none⟩ k w _ (rd_of (v := .pointer (some ⟨R, 0, none⟩)) (cellOf h1 rfl) ?_)
 simp only [vq, eqV, nilV]
 refine (sign88_c hk h4).mono ?_
 rintro _ w3 ⟨rfl, h5, hf3⟩
 simp only [vq, eqV, nilV, List.getElem?_cons_zero, List.getElem?_cons_succ]
 refine (fail51_c _ 2 (s := ⟨(getR k s.rem).2.1, s.e⟩) ⟨hf3.keep h1 h2, h2, h3, h5⟩).mono ?_
 rintro _ w11 ⟨rfl, h6, hf11⟩
 have hB11 := hf11.keep (hf3.keep hB hBR) hBA
 refine stC_one hB11 hi rfl fun w12 hB12 hf12 => ⟨rfl, h6.keep hf12 (fun e => hBA e.symm) (fun e => hBR e.symm) (fun j hj e => hBg (by rw [hj, e])), hB12, ?_⟩
 exact ((hf3.mono fun i _ e => .inr (.inl e)).trans (hf11.mono fun i _ e => .inl e)).trans (hf12.mono fun i _ e => .inr (.inr e))
end Go.Proofs.YtipikchkbmgloaaGreatDoor
namespace Go.Proofs.YtipikchkbmgloaaGreatDoor
set_option linter.unusedSimpArgs false
set_option linter.unusedVariables false
open Go Go.RowKit VC
theorem rmeth_whole {v : Value} {w : World} {K : FuncId → Value → Prop} (k : K 122 v) : methV Tryz.prog 87 v "embrasure/message.whole" w K := ⟨122, v, by kernel_rfl, k⟩
theorem rmeth_signed {v : Value} {w : World} {K : FuncId → Value → Prop} (k : K 121 v) : methV Tryz.prog 87 v "embrasure/message.signed" w K := ⟨121, v, by kernel_rfl, k⟩
theorem rmeth_within {v : Value} {w : World} {K : FuncId → Value → Prop} (k : K 75 v) : methV Tryz.prog 87 v "embrasure/message.within" w K := ⟨75, v, by kernel_rfl, k⟩
theorem rmeth_bytes {v : Value} {w : World} {K : FuncId → Value → Prop} (k : K 120 v) : methV Tryz.prog 87 v "embrasure/message.bytes" w K := ⟨120, v, by kernel_rfl, k⟩
theorem rnila_within {a : Addr} {w : World} {K : Prop} (k : K) : nilA Tryz.prog 87 (.pointer (some a)) "embrasure/message.within" w K := ⟨by kernel_rfl, k⟩
theorem rnila_bytes {a : Addr} {w : World} {K : Prop} (k : K) : nilA Tryz.prog 87 (.pointer (some a)) "embrasure/message.bytes" w K := ⟨by kernel_rfl, k⟩
abbrev rv (A : Nat) : Value := .iface 87 (.pointer (some ⟨A, 0, none⟩))
variable {w : World} {base A R : Nat} {g : Option Nat} {s : RS}
theorem rnum30_c {B i tB : Nat} {C : Array Value} {x : Int} {k : Nat} (hk : k ≤ 64) (h : RdAt w base A R s g) (hB : w.heap[B]? = some (.cells C tB (0, 0))) (hi : C[i]? = some (.int .i64 x)) (hBA : B ≠ A) (hBR : B ≠ R) (hBg : g ≠ some B) :
  callV Tryz.prog 47 [rv A, .pointer (some ⟨B, i, none⟩), .int .i64 k] w (RdP base A R B tB g w (rdW k s).2 (C.setIfInBounds i (.int .i64 (IntKind.i64.wrap (rdW k s).1)))) := by
 refine vc47 _ ⟨B, i, none⟩ k w _ (rd_of (v := .int .i64 x) (cellOf hB hi) ?_)
 simp only [vq, eqV, nilV]
 refine allocC_of fun w3 hb3 hs3 hf3 => ?_
 refine stC_one hb3 (by simp) rfl fun w4 hb4 hf4 => ?_
 have hF4 : Fm none' w w4 := hf3.trans' hf4 (by rintro i hi rfl; omega)
 have hl := h.lt
 have hw4 := h.keep hF4 id id fun _ _ y => y
 have hBl := lt_of_blk hB
 refine rmeth_whole ?_
 refine (whole87_c hk hw4 hb4 (by simp) (by omega) (by omega) (by intro e; have := hl.2.2 _ e; omega)).mono ?_
 rintro _ w10 ⟨rfl, h10, hb10, hf10⟩
 refine rd_of (v := .int .u64 (rdW k s).1) (cellOf hb10 rfl) ?_
 simp only [vq, eqV, nilV]
 have hB10 := hf10.keep (hF4.keep hB id) (by rintro (e | e | e); exact hBA e; exact hBR e; omega)
 refine stC_one hB10 (Array.getElem?_eq_some_iff.1 hi).1 rfl fun w13 hB13 hf13 => ⟨rfl, h10.keep hf13 (fun e => hBA e.symm) (fun e => hBR e.symm) (fun j hj e => hBg (by rw [hj, e])), hB13, ?_⟩
 refine (hF4.none.trans' hf10 ?_).trans' hf13 ?_
 ·rintro j hj (e | e | e)
  ·exact .inl e
  ·exact .inr (.inl e)
  ·omega
 ·rintro j hj e; exact .inr (.inr e)
theorem rnum41_c {B i tB : Nat} {C : Array Value} {x : Int} {k : Nat} (hk : k ≤ 64) (h : RdAt w base A R s g) (hB : w.heap[B]? = some (.cells C tB (0, 0))) (hi : C[i]? = some (.int .u16 x)) (hBA : B ≠ A) (hBR : B ≠ R) (hBg : g ≠ some B) :
  callV Tryz.prog 46 [rv A, .pointer (some ⟨B, i, none⟩), .int .i64 k] w (RdP base A R B tB g w (rdW k s).2 (C.setIfInBounds i (.int .u16 (IntKind.u16.wrap (rdW k s).1)))) := by
 refine vc46 _ ⟨B, i, none⟩ k w _ (rd_of (v := .int .u16 x) (cellOf hB hi) ?_)
 simp only [vq, eqV, nilV]
 refine allocC_of fun w3 hb3 hs3 hf3 => ?_
 refine stC_one hb3 (by simp) rfl fun w4 hb4 hf4 => ?_
 have hF4 : Fm none' w w4 := hf3.trans' hf4 (by rintro i hi rfl; omega)
 have hl := h.lt
 have hw4 := h.keep hF4 id id fun _ _ y => y
 have hBl := lt_of_blk hB
 refine rmeth_whole ?_
 refine (whole87_c hk hw4 hb4 (by simp) (by omega) (by omega) (by intro e; have := hl.2.2 _ e; omega)).mono ?_
 rintro _ w10 ⟨rfl, h10, hb10, hf10⟩
 refine rd_of (v := .int .u64 (rdW k s).1) (cellOf hb10 rfl) ?_
 simp only [vq, eqV, nilV]
 have hB10 := hf10.keep (hF4.keep hB id) (by rintro (e | e | e); exact hBA e; exact hBR e; omega)
 refine stC_one hB10 (Array.getElem?_eq_some_iff.1 hi).1 rfl fun w13 hB13 hf13 => ⟨rfl, h10.keep hf13 (fun e => hBA e.symm) (fun e => hBR e.symm) (fun j hj e => hBg (by rw [hj, e])), hB13, ?_⟩
 refine (hF4.none.trans' hf10 ?_).trans' hf13 ?_
 ·rintro j hj (e | e | e)
  ·exact .inl e
  ·exact .inr (.inl e)
  ·omega
 ·rintro j hj e; exact .inr (.inr e)
theorem rnum44_c {B i tB : Nat} {C : Array Value} {x : Int} {k : Nat} (hk : k ≤ 64) (h : RdAt w base A R s g) (hB : w.heap[B]? = some (.cells C tB (0, 0))) (hi : C[i]? = some (.int .i64 x)) (hBA : B ≠ A) (hBR : B ≠ R) (hBg : g ≠ some B) :
  callV Tryz.prog 50 [rv A, .pointer (some ⟨B, i, none⟩), .int .i64 k] w (RdP base A R B tB g w (rdW k s).2 (C.setIfInBounds i (.int .i64 (IntKind.i64.wrap (rdW k s).1)))) := by
 refine vc50 _ ⟨B, i, none⟩ k w _ (rd_of (v := .int .i64 x) (cellOf hB hi) ?_)
 simp only [vq, eqV, nilV]
 refine allocC_of fun w3 hb3 hs3 hf3 => ?_
 refine stC_one hb3 (by simp) rfl fun w4 hb4 hf4 => ?_
 have hF4 : Fm none' w w4 := hf3.trans' hf4 (by rintro i hi rfl; omega)
 have hl := h.lt
 have hw4 := h.keep hF4 id id fun _ _ y => y
 have hBl := lt_of_blk hB
 refine rmeth_whole ?_
 refine (whole87_c hk hw4 hb4 (by simp) (by omega) (by omega) (by intro e; have := hl.2.2 _ e; omega)).mono ?_
 rintro _ w10 ⟨rfl, h10, hb10, hf10⟩
 refine rd_of (v := .int .u64 (rdW k s).1) (cellOf hb10 rfl) ?_
 simp only [vq, eqV, nilV]
 have hB10 := hf10.keep (hF4.keep hB id) (by rintro (e | e | e); exact hBA e; exact hBR e; omega)
 refine stC_one hB10 (Array.getElem?_eq_some_iff.1 hi).1 rfl fun w13 hB13 hf13 => ⟨rfl, h10.keep hf13 (fun e => hBA e.symm) (fun e => hBR e.symm) (fun j hj e => hBg (by rw [hj, e])), hB13, ?_⟩
 refine (hF4.none.trans' hf10 ?_).trans' hf13 ?_
 ·rintro j hj (e | e | e)
  ·exact .inl e
  ·exact .inr (.inl e)
  ·omega
 ·rintro j hj e; exact .inr (.inr e)
theorem rnum45_c {B i tB : Nat} {C : Array Value} {x : Int} {k : Nat} (hk : k ≤ 64) (h : RdAt w base A R s g) (hB : w.heap[B]? = some (.cells C tB (0, 0))) (hi : C[i]? = some (.int .u32 x)) (hBA : B ≠ A) (hBR : B ≠ R) (hBg : g ≠ some B) :
  callV Tryz.prog 51 [rv A, .pointer (some ⟨B, i, none⟩), .int .i64 k] w (RdP base A R B tB g w (rdW k s).2 (C.setIfInBounds i (.int .u32 (IntKind.u32.wrap (rdW k s).1)))) := by
 refine vc51 _ ⟨B, i, none⟩ k w _ (rd_of (v := .int .u32 x) (cellOf hB hi) ?_)
 simp only [vq, eqV, nilV]
 refine allocC_of fun w3 hb3 hs3 hf3 => ?_
 refine stC_one hb3 (by simp) rfl fun w4 hb4 hf4 => ?_
 have hF4 : Fm none' w w4 := hf3.trans' hf4 (by rintro i hi rfl; omega)
 have hl := h.lt
 have hw4 := h.keep hF4 id id fun _ _ y => y
 have hBl := lt_of_blk hB
 refine rmeth_whole ?_
 refine (whole87_c hk hw4 hb4 (by simp) (by omega) (by omega) (by intro e; have := hl.2.2 _ e; omega)).mono ?_
 rintro _ w10 ⟨rfl, h10, hb10, hf10⟩
 refine rd_of (v := .int .u64 (rdW k s).1) (cellOf hb10 rfl) ?_
 simp only [vq, eqV, nilV]
 have hB10 := hf10.keep (hF4.keep hB id) (by rintro (e | e | e); exact hBA e; exact hBR e; omega)
 refine stC_one hB10 (Array.getElem?_eq_some_iff.1 hi).1 rfl fun w13 hB13 hf13 => ⟨rfl, h10.keep hf13 (fun e => hBA e.symm) (fun e => hBR e.symm) (fun j hj e => hBg (by rw [hj, e])), hB13, ?_⟩
 refine (hF4.none.trans' hf10 ?_).trans' hf13 ?_
 ·rintro j hj (e | e | e)
  ·exact .inl e
  ·exact .inr (.inl e)
  ·omega
 ·rintro j hj e; exact .inr (.inr e)
theorem rnum60_c {B i tB : Nat} {C : Array Value} {x : Int} {k : Nat} (hk : k ≤ 64) (h : RdAt w base A R s g) (hB : w.heap[B]? = some (.cells C tB (0, 0))) (hi : C[i]? = some (.int .u8 x)) (hBA : B ≠ A) (hBR : B ≠ R) (hBg : g ≠ some B) :
  callV Tryz.prog 70 [rv A, .pointer (some ⟨B, i, none⟩), .int .i64 k] w (RdP base A R B tB g w (rdW k s).2 (C.setIfInBounds i (.int .u8 (IntKind.u8.wrap (rdW k s).1)))) := by
 refine vc70 _ ⟨B, i, none⟩ k w _ (rd_of (v := .int .u8 x) (cellOf hB hi) ?_)
 simp only [vq, eqV, nilV]
 refine allocC_of fun w3 hb3 hs3 hf3 => ?_
 refine stC_one hb3 (by simp) rfl fun w4 hb4 hf4 => ?_
 have hF4 : Fm none' w w4 := hf3.trans' hf4 (by rintro i hi rfl; omega)
 have hl := h.lt
 have hw4 := h.keep hF4 id id fun _ _ y => y
 have hBl := lt_of_blk hB
 refine rmeth_whole ?_
 refine (whole87_c hk hw4 hb4 (by simp) (by omega) (by omega) (by intro e; have := hl.2.2 _ e; omega)).mono ?_
 rintro _ w10 ⟨rfl, h10, hb10, hf10⟩
 refine rd_of (v := .int .u64 (rdW k s).1) (cellOf hb10 rfl) ?_
 simp only [vq, eqV, nilV]
 have hB10 := hf10.keep (hF4.keep hB id) (by rintro (e | e | e); exact hBA e; exact hBR e; omega)
 refine stC_one hB10 (Array.getElem?_eq_some_iff.1 hi).1 rfl fun w13 hB13 hf13 => ⟨rfl, h10.keep hf13 (fun e => hBA e.symm) (fun e => hBR e.symm) (fun j hj e => hBg (by rw [hj, e])), hB13, ?_⟩
 refine (hF4.none.trans' hf10 ?_).trans' hf13 ?_
 ·rintro j hj (e | e | e)
  ·exact .inl e
  ·exact .inr (.inl e)
  ·omega
 ·rintro j hj e; exact .inr (.inr e)
end Go.Proofs.YtipikchkbmgloaaGreatDoor
namespace Go.Proofs.YtipikchkbmgloaaGreatDoor
set_option linter.unusedSimpArgs false
set_option linter.unusedVariables false
open Go VC
theorem vc120 (a : Addr) (b : Addr) (c : Int) (w : World) (R : Value → World → Prop)
 (h : allocC w (Obj.cells #[Value.int IntKind.u64 (0 : Int)] (166 : Nat)) fun n0 w1 => allocC w1 (Obj.cells #[Value.int IntKind.u64 (0 : Int)] (166 : Nat)) fun n2 w3 => callV Tryz.prog (122 : Nat) [Value.pointer (some a), Value.pointer (some { block := n0, off := (0 : Nat) : Addr }), Value.int IntKind.i64 c] w3 fun v4 w5 => loopC (alist []) w5 fun u6 u7 => ∀ (u8 : Nat → Value) (w9 : World), u6 (alist []) w9 → rd (World.cell? w9 { block := n0, off := (0 : Nat) : Addr }) fun v11 => isK IntKind.u64 v11 fun i12 => br (decide ((0 : Int) < i12)) (rd (World.cell? w9 (Addr.add a (1 : Nat))) fun v13 => isK IntKind.i64 v13 fun i14 => br (decide (i14 = (0 : Int))) (callV Tryz.prog (122 : Nat) [Value.pointer (some a), Value.pointer (some { block := n2, off := (0 : Nat) : Addr }), Value.int IntKind.i64 (8 : Int)] w9 fun v15 w16 => heldC (World.drew w16) fun u17 => (∀ (w18 : World), u17 w18 → Value.pointer (some b) = Value.pointer (some b) ∧ w18 = w18) ∧ (∀ (w20 : World), u17 w20 → Value.pointer (some b) = Value.pointer (some b) ∧ w20 = w20) ∧ (∀ (w22 : World), u17 w22 → Value.pointer (some b) = Value.pointer (some b) ∧ w22 = w22) ∧ rd (World.cell? (World.drew w16) b) fun v24 => (∀ (w25 : World), u17 w25 → rd (World.cell? w25 b) fun v27 => v27 = v24 ∧ w25 = w25) ∧ isSl v24 fun o28 n29 n30 => rd (World.cell? (World.drew w16) { block := n2, off := (0 : Nat) : Addr }) fun v31 => (∀ (w32 : World), u17 w32 → rd (World.cell? w32 { block := n2, off := (0 : Nat) : Addr }) fun v34 => v34 = v31 ∧ w32 = w32) ∧ isK IntKind.u64 v31 fun i35 => (∀ (w36 : World), u17 w36 → Value.int IntKind.u8 (IntKind.wrap IntKind.u8 i35) = Value.int IntKind.u8 (IntKind.wrap IntKind.u8 i35) ∧ w36 = w36) ∧ runs Tryz.prog (Instr.buildSlice (39 : Nat) (1 : Nat) #[((0 : Nat), Value.int IntKind.u8 (IntKind.wrap IntKind.u8 i35))]) (World.drew w16) fun v38 w39 => isSl v38 fun o40 n41 n42 => u17 w39 ∧ runs Tryz.prog (Builtin.append_ #[(39 : Nat), (39 : Nat)] (39 : Nat) #[Value.slice o28 n29 n30, Value.slice o40 n41 n42]) w39 fun v43 w44 => isSl v43 fun o45 n46 n47 => u17 w44 ∧ stC w44 b [Value.slice o45 n46 n47] fun w48 => rd (World.cell? w48 { block := n0, off := (0 : Nat) : Addr }) fun v49 => isK IntKind.u64 v49 fun i50 => stC w48 { block := n0, off := (0 : Nat) : Addr } [Value.int IntKind.u64 (IntKind.wrap IntKind.u64 (i50 - (1 : Int)))] fun w51 => again u6 u7 (alist []) w51 (alist []) w9) (R (Value.tuple #[]) w9)) (R (Value.tuple #[]) w9)) :
 callV Tryz.prog 120 [Value.pointer (some a), Value.pointer (some b), Value.int IntKind.i64 c] w R :=
 vc_of hm ⟨fun _ => false, fun n => match n with | 5 => .take 0 (.take 1 (.take 2 (.take 3 (.take 4 (.take 5 (.one 6 (.one 7 (.last 8 (.last 9 (.done)))))))))) | _ => .done, fun n => match n with | 2 => [] | _ => []⟩ Tryz.func120 ent120 (by kernel_rfl) h
end Go.Proofs.YtipikchkbmgloaaGreatDoor
namespace Go.Proofs.YtipikchkbmgloaaGreatDoor
set_option linter.unusedSimpArgs false
set_option linter.unusedVariables false
open Go Go.RowKit VC
variable {w : World} {base A R : Nat} {g : Option Nat} {s : RS}
def rdB : Nat → RS → List Int → List Int × RS
 | 0, s, acc => (acc, s)
 | n + 1, s, acc => if s.e = 0 then rdB n (rdW 8 s).2 (acc ++ [IntKind.u8.wrap (rdW 8 s).1]) else (acc, s)
def cellN (w : World) (N : Nat) : Nat := match w.cell? ⟨N, 0, none⟩ with | some (.int _ n) => n.toNat | _ => 0
theorem cellN_of {N n : Nat} {k : IntKind} (h : w.heap[N]? = some (.cells #[.int k n] 166 (0, 0))) : cellN w N = n := by
 unfold cellN; rw [cellOf h (i := 0) rfl]; rfl
theorem getR_lt {k : Nat} {rem : List Int} (hb : ∀ b ∈ rem, Bit b) : 0 ≤ (getR k rem).1 ∧ (getR k rem).1 < 2 ^ k := by
 unfold getR
 split
 ·exact ⟨Int.le_refl _, show (0 : Int) < 2 ^ k by exact_mod_cast Nat.two_pow_pos k⟩
 ·exact val_lt k _ (by rw [List.length_take]; omega) fun x hx => hb x (List.mem_of_mem_take hx)
set_option maxHeartbeats 1000000 in
set_option maxRecDepth 20000 in
theorem bytes85_c {B i tB : Nat} {C : Array Value} (h : RdAt w base A R s g) (hB : w.heap[B]? = some (.cells C tB (0, 0))) (hi : C[i]? = some (.slice none 0 0)) (hBA : B ≠ A) (hBR : B ≠ R) (hBg : g ≠ some B) (hbase : base ≤ w.heap.size) :
  callV Tryz.prog 120 [.pointer (some ⟨A, 0, none⟩), .pointer (some ⟨B, i, none⟩), .int .i64 10] w fun v w' => ∃ p cp, RdP base A R B tB g w (rdB (rdW 10 s).1.toNat (rdW 10 s).2 []).2 (C.setIfInBounds i (.slice p (rdB (rdW 10 s).1.toNat (rdW 10 s).2 []).1.length cp)) v w' ∧
   w'.ownsRow base 5 1 (.slice p (rdB (rdW 10 s).1.toNat (rdW 10 s).2 []).1.length cp) (rdB (rdW 10 s).1.toNat (rdW 10 s).2 []).1.length ((rdB (rdW 10 s).1.toNat (rdW 10 s).2 []).1.map (Value.int .u8)) ∧ (∀ ad, p = some ad → w.heap.size ≤ ad.block) := by
 have hl := h.lt
 have hBl := lt_of_blk hB
 have hiC := (Array.getElem?_eq_some_iff.1 hi).1
 refine vc120 ⟨A, 0, none⟩ ⟨B, i, none⟩ 10 w _ ?_
 refine allocC_of fun w1 hb1 hs1 hf1 => allocC_of fun w3 hb3 hs3 hf3 => ?_
 have hF3 : Fm none' w w3 := hf1.trans hf3
 rw [hs1] at hb3 hs3 ⊢
 have hN3 := hf3.keep hb1 id
 refine (whole87_c (k := 10) (by omega) (h.keep hF3 id id fun _ _ y => y) hN3 (by simp) (by omega) (by omega) (by intro e; have := hl.2.2 _ e; omega)).mono ?_
 rintro _ w5 ⟨rfl, h5, hN5, hf5⟩
 have hgl := getR_lt (k := 10) h.2.2.2.bits
 obtain ⟨n0, hn0⟩ : ∃ n0 : Nat, (rdW 10 s).1 = n0 := ⟨(rdW 10 s).1.toNat, by unfold rdW; simp only []; omega⟩
 have hn0l : n0 < 1024 := by unfold rdW at hn0; simp only [] at hn0; omega
 rw [hn0] at hN5 ⊢
 rw [Int.toNat_natCast]
 obtain ⟨s1, hs1'⟩ : ∃ s1, s1 = (rdW 10 s).2 := ⟨_, rfl⟩
 rw [← hs1'] at h5 ⊢
 have hc5 := hf5.keep hb3 (by rintro (e | e | e); omega; omega; omega)
 have hB5 := hf5.keep (hF3.keep hB id) (by rintro (e | e | e); exact hBA e; exact hBR e; omega)
 have hF5 : Fm (fun i => i = A ∨ i = R ∨ i = B) w w5 := hF3.none.trans' hf5 (by rintro j hj (e | e | e); exact .inl e; exact .inr (.inl e); omega)
 refine ⟨fun _ w' => ∃ (m : Nat) (c : Int) (s' : RS) (acc : List Int) (p : Option Addr) (cp : Nat), w'.heap[w.heap.size]? = some (.cells #[.int .u64 m] 166 (0, 0)) ∧ w'.heap[w.heap.size + 1]? = some (.cells #[.int .u64 c] 166 (0, 0)) ∧ RdAt w' base A R s' g ∧
  w'.heap[B]? = some (.cells (C.setIfInBounds i (.slice p acc.length cp)) tB (0, 0)) ∧ w'.ownsRow base 5 1 (.slice p acc.length cp) acc.length (acc.map (Value.int .u8)) ∧ (∀ ad, p = some ad → w.heap.size + 2 ≤ ad.block) ∧ Fm (fun i => i = A ∨ i = R ∨ i = B) w w' ∧ rdB m s' acc = rdB n0 s1 [] ∧ acc.length + m ≤ n0,
  fun _ w' => cellN w' w.heap.size, ?_, ?_⟩
 ·refine ⟨n0, 0, s1, [], none, 0, hN5, hc5, h5, ?_, ⟨rfl, .inl ⟨rfl, rfl⟩⟩, (fun _ e => by cases e), hF5, rfl, by simp⟩
  rw [List.length_nil, set_same hi]; exact hB5
 rintro u w9 ⟨m, c, s', acc, p, cp, hN, hc, hr, hB9, hown, hfresh, hF, hrd, hle⟩
 refine rd_of (v := .int .u64 m) (cellOf hN rfl) ?_
 simp only [vq, eqV, nilV]
 refine br_dec (fun hm => ?_) (fun hm => ?_)
 ·simp only [addr_add, Nat.zero_add]
  refine rd_of (v := .int .i64 s'.e) (cellOf hr.1 rfl) ?_
  simp only [vq, eqV, nilV]
  have hrl := hr.lt
  refine br_dec (fun he => ?_) (fun he => ?_)
  ·refine (whole87_c (k := 8) (by omega) hr hc (by simp) (by omega) (by omega) (by intro e; have := hl.2.2 _ e; omega)).mono ?_
   rintro _ w16 ⟨rfl, hr16, hc16, hf16⟩
   have hgB : ∀ {j}, p = some j → j.block ≠ B := fun e => by have := hfresh _ e; omega
   have hr16' := hr16.keep (Fm.drew w16) id id fun _ _ y => y
   have hN16 : w16.drew.heap[w.heap.size]? = _ := hf16.keep hN (by rintro (e | e | e); omega; omega; omega)
   have hB16 : w16.drew.heap[B]? = _ := hf16.keep hB9 (by rintro (e | e | e); exact hBA e; exact hBR e; omega)
   have hc16' : w16.drew.heap[w.heap.size + 1]? = _ := hc16
   have hown16 : w16.drew.ownsRow base 5 1 _ _ _ := (Fm.drew w16).owns (hf16.owns hown fun j hj => by
    cases p with
    | none => cases hj
    | some ad => cases hj; have := hfresh _ rfl; rintro (e | e | e) <;> omega) fun _ _ y => y
   have hF16 : Fm (fun i => i = A ∨ i = R ∨ i = B) w w16.drew := (hF.trans' hf16 (by rintro j hj (e | e | e); exact .inl e; exact .inr (.inl e); omega)).trans (Fm.drew w16).none
   have hbase16 : base ≤ w16.drew.heap.size := Nat.le_trans hbase hF16.size
   refine ⟨fun w' => w'.heap[B]? = some (.cells (C.setIfInBounds i (.slice p acc.length cp)) tB (0, 0)) ∧ w'.heap[w.heap.size + 1]? = some (.cells #[.int .u64 (rdW 8 s').1] 166 (0, 0)), ⟨hB16, hc16'⟩, ?_⟩
   simp only [vq, eqV, nilV]
   refine rd_of (v := .slice p acc.length cp) (cellOf hB16 (by simp [hiC])) ⟨fun w' hw => rd_of (cellOf hw.1 (by simp [hiC])) rfl, ?_⟩
   simp only [vq, eqV, nilV]
   refine rd_of (v := .int .u64 (rdW 8 s').1) (cellOf hc16' rfl) ⟨fun w' hw => rd_of (cellOf hw.2 rfl) rfl, ?_⟩
   simp only [vq, eqV, nilV]
   have fin : ∀ (w41 : World) (v41 : Value), w41.ownsRow base 5 1 v41 (acc.length + 1) (acc.map (Value.int .u8) ++ [.int .u8 (IntKind.u8.wrap (rdW 8 s').1)]) → (∀ ad, (∃ n c, v41 = .slice (some ad) n c) → w.heap.size + 2 ≤ ad.block) → Fm (fun i => (Value.slice p acc.length cp).ownBlock = some i) w16.drew w41 →
     isSl v41 fun o42 n43 n44 => (w41.heap[B]? = some (.cells (C.setIfInBounds i (.slice p acc.length cp)) tB (0, 0)) ∧ w41.heap[w.heap.size + 1]? = some (.cells #[.int .u64 (rdW 8 s').1] 166 (0, 0))) ∧ stC w41 ⟨B, i, none⟩ [.slice o42 n43 n44] fun w47 =>
      rd (w47.cell? ⟨w.heap.size, 0, none⟩) fun v48 => isK IntKind.u64 v48 fun i49 => stC w47 ⟨w.heap.size, 0, none⟩ [.int .u64 (IntKind.u64.wrap (i49 - 1))] fun w50 =>
       (∃ (m : Nat) (c : Int) (s' : RS) (acc : List Int) (p : Option Addr) (cp : Nat), w50.heap[w.heap.size]? = some (.cells #[.int .u64 m] 166 (0, 0)) ∧ w50.heap[w.heap.size + 1]? = some (.cells #[.int .u64 c] 166 (0, 0)) ∧ RdAt w50 base A R s' g ∧
        w50.heap[B]? = some (.cells (C.setIfInBounds i (.slice p acc.length cp)) tB (0, 0)) ∧ w50.ownsRow base 5 1 (.slice p acc.length cp) acc.length (acc.map (Value.int .u8)) ∧ (∀ ad, p = some ad → w.heap.size + 2 ≤ ad.block) ∧ Fm (fun i => i = A ∨ i = R ∨ i = B) w w50 ∧ rdB m s' acc = rdB n0 s1 [] ∧ acc.length + m ≤ n0) ∧
       cellN w50 w.heap.size < cellN w9 w.heap.size := by
    intro w41 v41 hown41 hfr41 hf41
    obtain ⟨p4, c4, rfl, -⟩ := own_read hown41
    have hnb : ∀ b, b < w.heap.size + 2 → ¬ (Value.slice p acc.length cp).ownBlock = some b := by
     intro b hb e
     cases p with
     | none => cases e
     | some ad => cases e; have := hfresh _ rfl; omega
    have hN41 := hf41.keep hN16 (hnb _ (by omega))
    have hc41 := hf41.keep hc16' (hnb _ (by omega))
    have hB41 := hf41.keep hB16 (hnb _ (by omega))
    have hr41 := hr16'.keep hf41 (hnb _ (by omega)) (hnb _ (by omega)) fun j hj => hnb _ (by have := hl.2.2 j hj; omega)
    refine ⟨⟨hB41, hc41⟩, stC_one hB41 (by simpa using hiC) rfl fun w47 hB47 hf47 => ?_⟩
    have hB47' : w47.heap[B]? = some (.cells (C.setIfInBounds i (.slice p4 (acc.length + 1) c4)) tB (0, 0)) := by
     rw [hB47]; congr 2
     apply Array.ext'
     simp
    have hN47 := hf47.keep hN41 (by omega)
    refine rd_of (v := .int .u64 m) (cellOf hN47 rfl) ?_
    simp only [vq, eqV, nilV]
    refine stC_one hN47 (by simp) rfl fun w50 hN50 hf50 => ?_
    have hm1 : IntKind.u64.wrap ((m : Int) - 1) = ((m - 1 : Nat) : Int) := by simp only [IntKind.wrap, IntKind.bits, IntKind.signed]; simp; omega
    rw [hm1] at hN50
    obtain ⟨m', rfl⟩ : ∃ m', m = m' + 1 := ⟨m - 1, by omega⟩
    have hno : ∀ b, b < w.heap.size + 2 → ¬ (Value.slice p4 (acc.length + 1) c4).ownBlock = some b := by
     intro b hb e
     cases p4 with
     | none => cases e
     | some ad => cases e; have := hfr41 _ ⟨_, _, rfl⟩; omega
    refine ⟨⟨m', (rdW 8 s').1, (rdW 8 s').2, acc ++ [IntKind.u8.wrap (rdW 8 s').1], p4, c4, hN50, hf50.keep (hf47.keep hc41 (by omega)) (by omega), ?_, ?_, ?_, (fun ad e => hfr41 ad ⟨_, _, by rw [e]⟩), ?_, ?_, ?_⟩, ?_⟩
    ·exact (hr41.keep hf47 (fun e => hBA e.symm) (fun e => hBR e.symm) (fun j hj e => hBg (by rw [hj, e]))).keep hf50 (by omega) (by omega) (fun j hj => by have := hl.2.2 j hj; omega)
    ·rw [List.length_append]; exact hf50.keep hB47' (by omega)
    ·rw [List.length_append, List.map_append]
     exact hf50.owns (hf47.owns hown41 fun j hj e => hno _ (by omega) hj) fun j hj e => hno _ (by omega) hj
    ·refine ((hF16.trans' hf41 ?_).trans' hf47 ?_).trans' hf50 ?_
     ·intro j hj e; exact absurd e (hnb j (by omega))
     ·rintro j hj e; exact .inr (.inr e)
     ·rintro j hj e; omega
    ·rw [← hrd]
     conv => rhs; unfold rdB
     rw [if_pos he]
    ·rw [List.length_append, List.length_singleton]; omega
    ·rw [cellN_of hN50, cellN_of hN]; omega
   have hp16 : ∀ j, (Value.slice p acc.length cp).ownBlock = some j → w.heap.size + 2 ≤ j := by
    intro j e
    cases p with
    | none => cases e
    | some ad => cases e; exact hfresh _ rfl
   have hs16 : w.heap.size + 2 ≤ w16.drew.heap.size := lt_of_blk hc16'
   have app : ∀ (w36 : World), w36.heap[w16.drew.heap.size]? = some (.cells #[.int .u8 (IntKind.u8.wrap (rdW 8 s').1)] 5 (0, 0)) → Fm none' w16.drew w36 → runs Tryz.prog (Builtin.append_ #[39, 39] 39 #[.slice p acc.length cp, .slice (some ⟨w16.drew.heap.size, 0, none⟩) 1 1]) w36 fun v40 w41 =>
     w41.ownsRow base 5 1 v40 (acc.length + 1) (acc.map (Value.int .u8) ++ [.int .u8 (IntKind.u8.wrap (rdW 8 s').1)]) ∧ (∀ ad, (∃ n c, v40 = .slice (some ad) n c) → w.heap.size + 2 ≤ ad.block) ∧ Fm (fun i => (Value.slice p acc.length cp).ownBlock = some i) w16.drew w41 := by
    intro w36 hb36 hf36
    refine append_at (news := [.int .u8 (IntKind.u8.wrap (rdW 8 s').1)]) (by rw [row39]) row5 rfl (hf36.owns hown16 fun _ _ y => y) rfl (fun j u hj => ?_) (by simp [Value.oneCell']) (Nat.le_trans hbase16 hf36.size) (by simp only [maxLen]; omega) (by omega) fun v40 w41 hv hf40 hbk => ⟨hv, ?_, hf36.none.trans hf40⟩
    ·cases j with
     | zero => simp at hj; subst hj; rw [addr_add]; exact cellOf hb36 rfl
     | succ j => simp at hj
    ·rintro ad ⟨n, c, rfl⟩
     rcases hbk with e | e
     ·exact hp16 ad.block e.symm
     ·have e' : ad.block = w36.heap.size := Option.some.inj e
      rw [e']; exact Nat.le_trans hs16 hf36.size
   refine build_1 (by rw [row39]) row5 rfl rfl fun w36 hb36 hs36 hf36 => ?_
   simp only [vq, eqV, nilV]
   refine ⟨⟨hf36.keep hB16 id, hf36.keep hc16' id⟩, ?_⟩
   obtain ⟨v, w', hr, h1, h2, h3⟩ := app w36 hb36 hf36
   exact ⟨v, w', hr, fin w' v h1 h2 h3⟩
  ·have : rdB n0 s1 [] = (acc, s') := by
    rw [← hrd]
    cases m with
    | zero => rfl
    | succ m => unfold rdB; rw [if_neg he]
   rw [this]
   exact ⟨p, cp, ⟨rfl, hr, hB9, hF⟩, hown, fun ad e => by have := hfresh ad e; omega⟩
 ·have : rdB n0 s1 [] = (acc, s') := by
   rw [← hrd]
   have : m = 0 := by omega
   subst this
   rfl
  rw [this]
  exact ⟨p, cp, ⟨rfl, hr, hB9, hF⟩, hown, fun ad e => by have := hfresh ad e; omega⟩
end Go.Proofs.YtipikchkbmgloaaGreatDoor
namespace Go.Proofs.YtipikchkbmgloaaGreatDoor
set_option linter.unusedSimpArgs false
set_option linter.unusedVariables false
open Go Go.RowKit VC
variable {w : World} {base A R : Nat} {g : Option Nat} {s : RS}
theorem set_ne {C : Array Value} {i j : Nat} {v : Value} (h : i ≠ j) : (C.setIfInBounds i v)[j]? = C[j]? := by
 rw [Array.getElem?_setIfInBounds]; rw [if_neg h]
theorem set_eq {C : Array Value} {i : Nat} {v : Value} (h : i < C.size) : (C.setIfInBounds i v)[i]? = some v := by
 rw [Array.getElem?_setIfInBounds, if_pos rfl, if_pos h]
theorem RdAt.drew (h : RdAt w base A R s g) : RdAt w.drew base A R s g := h.keep (Fm.drew w) id id fun _ _ y => y
def rdId (s : RS) : Int × RS := (IntKind.i64.wrap (rdW 31 s).1, rdF (decide (0 < IntKind.i64.wrap (rdW 31 s).1)) (rdW 31 s).2)
theorem rid43_c {B i tB : Nat} {C : Array Value} {x : Int} (h : RdAt w base A R s g) (hB : w.heap[B]? = some (.cells C tB (0, 0))) (hi : C[i]? = some (.int .i64 x)) (hBA : B ≠ A) (hBR : B ≠ R) (hBg : g ≠ some B) :
  callV Tryz.prog 49 [rv A, .pointer (some ⟨B, i, none⟩)] w (RdP base A R B tB g w (rdId s).2 (C.setIfInBounds i (.int .i64 (rdId s).1))) := by
 refine vc49 _ ⟨B, i, none⟩ w _ ?_
 refine (rnum30_c (k := 31) (by omega) h hB hi hBA hBR hBg).mono ?_
 rintro _ w1 ⟨rfl, h1, hB1, hf1⟩
 have hic := (Array.getElem?_eq_some_iff.1 hi).1
 have hB1' : w1.drew.heap[B]? = _ := hB1
 refine ⟨fun w' => w'.heap[B]? = some (.cells (C.setIfInBounds i (.int .i64 (IntKind.i64.wrap (rdW 31 s).1))) tB (0, 0)), hB1', ?_⟩
 simp only [vq, eqV, nilV]
 refine rd_of (v := .int .i64 (IntKind.i64.wrap (rdW 31 s).1)) (cellOf hB1' (set_eq hic)) ⟨fun w' hw => rd_of (cellOf hw (set_eq hic)) rfl, ?_⟩
 simp only [vq, eqV, nilV]
 refine rnila_within ⟨fun w' _ => rnila_within trivial, rmeth_within ?_⟩
 refine (within31_c _ h1.drew).mono ?_
 rintro v w2 ⟨rfl, h2, hf2⟩
 exact ⟨rfl, h2, hf2.keep hB1' hBA, (hf1.trans (Fm.drew w1).none).trans (hf2.mono fun i _ e => .inl e)⟩
def stepV (k : Nat) (d : Int) (s : RS) : Int × RS := ((rdS k s).1, rdF (decide (d < 0) || (decide (IntKind.i64.wrap (0 - d) ≤ (rdS k s).1) && decide ((rdS k s).1 ≤ d))) (rdS k s).2)
def vst (k : Nat) (d : Int) (s : RS) (C : Array Value) (i : Nat) : Nat → RS × Array Value
 | 0 => (s, C)
 | j + 1 => ((stepV k d (vst k d s C i j).1).2, (vst k d s C i j).2.setIfInBounds (i + j) (.int .i64 (stepV k d (vst k d s C i j).1).1))
theorem vst_get (k : Nat) (d : Int) (s : RS) (C : Array Value) (i : Nat) : ∀ j m, j ≤ m → (vst k d s C i j).2[i + m]? = C[i + m]? := by
 intro j
 induction j with
 | zero => intro m _; rfl
 | succ j ih => intro m hm; show ((vst k d s C i j).2.setIfInBounds (i + j) _)[i + m]? = _; rw [set_ne (by omega), ih m (by omega)]
set_option maxHeartbeats 1000000 in
set_option maxRecDepth 20000 in
theorem rvec42_c {B i tB : Nat} {C : Array Value} {x0 x1 x2 d : Int} {k : Nat} (hk : k ≤ 64) (h : RdAt w base A R s g) (hB : w.heap[B]? = some (.cells C tB (0, 0)))
  (h0 : C[i]? = some (.int .i64 x0)) (h1 : C[i + 1]? = some (.int .i64 x1)) (h2 : C[i + 2]? = some (.int .i64 x2)) (hBA : B ≠ A) (hBR : B ≠ R) (hBg : g ≠ some B) :
  callV Tryz.prog 48 [rv A, .pointer (some ⟨B, i, none⟩), .int .i64 k, .int .i64 d] w (RdP base A R B tB g w (vst k d s C i 3).1 (vst k d s C i 3).2) := by
 have hl := h.lt
 have hBl := lt_of_blk hB
 refine vc48 _ ⟨B, i, none⟩ k d w _ ?_
 have hB0 : w.drew.heap[B]? = some (.cells C tB (0, 0)) := hB
 refine ⟨fun w' => True, trivial, ?_⟩
 simp only [vq, eqV, nilV, addr_add]
 refine build_3 (by rw [row169]) row165 rfl rfl rfl rfl fun w22 hb22 hs22 hf22 => ?_
 simp only [vq, eqV, nilV]
 have hF22 : Fm none' w w22 := (Fm.drew w).trans hf22
 have hcell : ∀ j, j < 3 → ∃ x, C[i + j]? = some (.int .i64 x) := by
  intro j hj
  match j, hj with
  | 0, _ => exact ⟨_, h0⟩
  | 1, _ => exact ⟨_, h1⟩
  | 2, _ => exact ⟨_, h2⟩
 refine ⟨fun u w' => ∃ j : Nat, j ≤ 3 ∧ u 21 = .int .i64 j ∧ RdAt w' base A R (vst k d s C i j).1 g ∧ w'.heap[B]? = some (.cells (vst k d s C i j).2 tB (0, 0)) ∧ Fm (fun i => i = A ∨ i = R ∨ i = B) w w' ∧
  w'.heap[w.heap.size]? = some (.cells #[.pointer (some ⟨B, i, none⟩), .pointer (some ⟨B, i + 1, none⟩), .pointer (some ⟨B, i + 2, none⟩)] 165 (0, 0)), fun u _ => 3 - (intOf (u 21)).toNat, ?_, ?_⟩
 ·exact ⟨0, by omega, rfl, h.keep hF22 id id fun _ _ y => y, hF22.keep hB id, hF22.none, hb22⟩
 rintro u w31 ⟨j, hj, h21, hr, hB31, hF, hb31⟩
 change u 21 = .int .i64 j at h21
 simp only [h21, vq, eqV, nilV]
 refine br_dec (fun hj3 => ?_) (fun hj3 => ?_)
 ·obtain ⟨x, hx⟩ := hcell j (by omega)
  have hCj : (vst k d s C i j).2[i + j]? = some (.int .i64 x) := by rw [vst_get k d s C i j j (Nat.le_refl _), hx]
  have hic := (Array.getElem?_eq_some_iff.1 hCj).1
  refine ⟨fun _ w' => RdAt w' base A R (vst k d s C i (j + 1)).1 g ∧ w'.heap[B]? = some (.cells (vst k d s C i (j + 1)).2 tB (0, 0)) ∧ Fm (fun i => i = A ∨ i = R ∨ i = B) w w' ∧
   w'.heap[w.heap.size]? = some (.cells #[.pointer (some ⟨B, i, none⟩), .pointer (some ⟨B, i + 1, none⟩), .pointer (some ⟨B, i + 2, none⟩)] 165 (0, 0)), ?_, ?_⟩
  ·refine ⟨by omega, ?_⟩
   have hptr : w31.cell? ⟨w.heap.size, j, none⟩ = some (.pointer (some ⟨B, i + j, none⟩)) := by
    match j, (show j < 3 by omega) with
    | 0, _ => exact cellOf hb31 rfl
    | 1, _ => exact cellOf hb31 rfl
    | 2, _ => exact cellOf hb31 rfl
   simp only [addr_add, Nat.zero_add]
   refine rd_of hptr ?_
   simp only [vq, eqV, nilV]
   refine rmeth_signed ?_
   refine (signed86_c hk hr hB31 hic hBA hBR hBg).mono ?_
   rintro _ w45 ⟨rfl, h45, hB45, hf45⟩
   obtain ⟨y, hy⟩ : ∃ y, (rdS k (vst k d s C i j).1).1 = y := ⟨_, rfl⟩
   have hB45' : w45.drew.heap[B]? = some (.cells ((vst k d s C i j).2.setIfInBounds (i + j) (.int .i64 y)) tB (0, 0)) := by rw [← hy]; exact hB45
   have hF45 : Fm (fun i => i = A ∨ i = R ∨ i = B) w w45.drew := (hF.trans hf45).trans (Fm.drew w45).none
   have hb45 : w45.drew.heap[w.heap.size]? = _ := hf45.keep hb31 (by rintro (e | e | e) <;> omega)
   have fin : ∀ b : Bool, b = (decide (d < 0) || (decide (IntKind.i64.wrap (0 - d) ≤ y) && decide (y ≤ d))) → callV Tryz.prog 75 [.pointer (some ⟨A, 0, none⟩), .bool b] w45.drew fun v w' => w'.heap[B]? = some (.cells ((vst k d s C i j).2.setIfInBounds (i + j) (.int .i64 y)) tB (0, 0)) ∧
     RdAt w' base A R (vst k d s C i (j + 1)).1 g ∧ w'.heap[B]? = some (.cells (vst k d s C i (j + 1)).2 tB (0, 0)) ∧ Fm (fun i => i = A ∨ i = R ∨ i = B) w w' ∧
      w'.heap[w.heap.size]? = some (.cells #[.pointer (some ⟨B, i, none⟩), .pointer (some ⟨B, i + 1, none⟩), .pointer (some ⟨B, i + 2, none⟩)] 165 (0, 0)) := by
    intro b hb
    refine (within31_c b h45.drew).mono ?_
    rintro _ w2 ⟨rfl, h2, hf2⟩
    refine ⟨hf2.keep hB45' hBA, ?_, ?_, hF45.trans (hf2.mono fun i _ e => .inl e), hf2.keep hb45 (by omega)⟩
    ·rw [hb, ← hy] at h2; exact h2
    ·rw [← hy] at hB45'; exact hf2.keep hB45' hBA
   have hget := set_eq (v := .int .i64 y) hic
   refine ⟨fun w' => w'.heap[B]? = some (.cells ((vst k d s C i j).2.setIfInBounds (i + j) (.int .i64 y)) tB (0, 0)), hB45', ?_⟩
   refine br_dec (fun hd => ?_) (fun hd => ?_)
   ·refine rnila_within ⟨fun _ _ => rnila_within trivial, rmeth_within ?_⟩
    exact fin true (by rw [decide_eq_true hd]; rfl)
   ·simp only [vq, eqV, nilV]
    refine rd_of (v := .int .i64 y) (cellOf hB45' hget) ⟨fun w' hw => rd_of (cellOf hw hget) rfl, ?_⟩
    simp only [vq, eqV, nilV]
    refine br_dec (fun hd1 => ?_) (fun hd1 => ?_)
    ·refine rd_of (v := .int .i64 y) (cellOf hB45' hget) ⟨fun w' hw => rd_of (cellOf hw hget) rfl, ?_⟩
     simp only [vq, eqV, nilV]
     refine rnila_within ⟨fun _ _ => rnila_within trivial, rmeth_within ?_⟩
     exact fin _ (by rw [decide_eq_false hd, decide_eq_true hd1]; simp)
    ·refine rnila_within ⟨fun _ _ => rnila_within trivial, rmeth_within ?_⟩
     exact fin false (by rw [decide_eq_false hd, decide_eq_false hd1]; rfl)
  ·rintro u35 w36 ⟨h3, h4, h5, h6⟩
   rw [w64 (by omega)]
   refine ⟨⟨j + 1, by omega, rfl, h3, h4, h5, h6⟩, ?_⟩
   show 3 - ((j : Int) + 1).toNat < 3 - (j : Int).toNat; omega
 ·have : j = 3 := by omega
  subst this
  exact ⟨rfl, hr, hB31, hF⟩
end Go.Proofs.YtipikchkbmgloaaGreatDoor
namespace Go.Proofs.YtipikchkbmgloaaGreatDoor
set_option linter.unusedSimpArgs false
set_option linter.unusedVariables false
open Go Go.RowKit VC
variable {w : World} {base A R : Nat} {g : Option Nat} {s : RS}
def dst (s : RS) (C : Array Value) (i : Nat) : Nat → RS × Array Value
 | 0 => (s, C)
 | j + 1 => ((rdS 8 (dst s C i j).1).2, (dst s C i j).2.setIfInBounds (i + j) (.int .i8 (IntKind.i8.wrap (rdS 8 (dst s C i j).1).1)))
theorem dst_get (s : RS) (C : Array Value) (i : Nat) : ∀ j m, j ≤ m → (dst s C i j).2[i + m]? = C[i + m]? := by
 intro j
 induction j with
 | zero => intro m _; rfl
 | succ j ih => intro m hm; show ((dst s C i j).2.setIfInBounds (i + j) _)[i + m]? = _; rw [set_ne (by omega), ih m (by omega)]
def rdC (s : RS) (C : Array Value) (i : Nat) : RS × Array Value :=
 let a := rdW 16 s
 let b := rdW 2 a.2
 let D := dst b.2 ((C.setIfInBounds i (.int .u16 (IntKind.u16.wrap a.1))).setIfInBounds (i + 1) (.int .u8 (IntKind.u8.wrap b.1))) (i + 2) 2
 let t := rdW 3 D.1
 (t.2, D.2.setIfInBounds (i + 4) (.int .i64 (IntKind.i64.wrap (IntKind.i64.wrap t.1 + 1))))
set_option maxHeartbeats 2000000 in
set_option maxRecDepth 20000 in
theorem rcommand40_c {B i tB : Nat} {C : Array Value} {q b dx dy t : Int} (h : RdAt w base A R s g) (hB : w.heap[B]? = some (.cells C tB (0, 0)))
  (h0 : C[i]? = some (.int .u16 q)) (h1 : C[i + 1]? = some (.int .u8 b)) (h2 : C[i + 2]? = some (.int .i8 dx)) (h3 : C[i + 3]? = some (.int .i8 dy)) (h4 : C[i + 4]? = some (.int .i64 t)) (hBA : B ≠ A) (hBR : B ≠ R) (hBg : g ≠ some B) :
  callV Tryz.prog 45 [rv A, .pointer (some ⟨B, i, none⟩)] w (RdP base A R B tB g w (rdC s C i).1 (rdC s C i).2) := by
 have hBl := lt_of_blk hB
 have hl := h.lt
 refine vc45 _ ⟨B, i, none⟩ w _ ?_
 refine (rnum41_c (k := 16) (by omega) h hB h0 hBA hBR hBg).mono ?_
 rintro _ wa ⟨rfl, hra, hBa, hfa⟩
 simp only [addr_add]
 refine (rnum60_c (k := 2) (x := b) (by omega) hra hBa (by rw [set_ne (by omega), h1]) hBA hBR hBg).mono ?_
 rintro _ wb ⟨rfl, hrb, hBb, hfb⟩
 obtain ⟨C2, hC2⟩ : ∃ C2, C2 = (C.setIfInBounds i (.int .u16 (IntKind.u16.wrap (rdW 16 s).1))).setIfInBounds (i + 1) (.int .u8 (IntKind.u8.wrap (rdW 2 (rdW 16 s).2).1)) := ⟨_, rfl⟩
 obtain ⟨s2, hs2⟩ : ∃ s2, s2 = (rdW 2 (rdW 16 s).2).2 := ⟨_, rfl⟩
 rw [← hC2] at hBb
 rw [← hs2] at hrb
 have hC2g : ∀ m, 2 ≤ m → C2[i + m]? = C[i + m]? := fun m hm => by rw [hC2, set_ne (by omega), set_ne (by omega)]
 have hgoal : rdC s C i = ((rdW 3 (dst s2 C2 (i + 2) 2).1).2, (dst s2 C2 (i + 2) 2).2.setIfInBounds (i + 4) (.int .i64 (IntKind.i64.wrap (IntKind.i64.wrap (rdW 3 (dst s2 C2 (i + 2) 2).1).1 + 1)))) := by rw [hC2, hs2]; rfl
 rw [hgoal]
 have hFb : Fm (fun i => i = A ∨ i = R ∨ i = B) w wb := hfa.trans hfb
 refine ⟨fun _ => True, trivial, ?_⟩
 simp only [vq, eqV, nilV, addr_add]
 refine build_2 (by rw [row163]) row162 rfl rfl rfl fun wc hbc hsc hfc => ?_
 have hFc' : Fm none' wb wc := (Fm.drew wb).trans hfc
 have hFc : Fm (fun i => i = A ∨ i = R ∨ i = B) w wc := hFb.trans hFc'.none
 simp only [vq, eqV, nilV]
 obtain ⟨S, hS⟩ : ∃ S, S = wb.heap.size := ⟨_, rfl⟩
 have hbc : wc.heap[S]? = some (.cells #[.pointer (some ⟨B, i + 2, none⟩), .pointer (some ⟨B, i + 3, none⟩)] 162 (0, 0)) := by rw [hS]; exact hbc
 have hSB : w.heap.size ≤ S := by rw [hS]; exact hFb.size
 have hcell : ∀ j, j < 2 → ∃ x, C2[i + 2 + j]? = some (.int .i8 x) := by
  intro j hj
  match j, hj with
  | 0, _ => exact ⟨dx, by rw [show i + 2 + 0 = i + 2 from rfl, hC2g 2 (by omega), h2]⟩
  | 1, _ => exact ⟨dy, by rw [show i + 2 + 1 = i + 3 from rfl, hC2g 3 (by omega), h3]⟩
 refine ⟨fun u w' => ∃ j : Nat, j ≤ 2 ∧ u 26 = .int .i64 j ∧ RdAt w' base A R (dst s2 C2 (i + 2) j).1 g ∧ w'.heap[B]? = some (.cells (dst s2 C2 (i + 2) j).2 tB (0, 0)) ∧ Fm (fun i => i = A ∨ i = R ∨ i = B) w w' ∧
  w'.heap[S]? = some (.cells #[.pointer (some ⟨B, i + 2, none⟩), .pointer (some ⟨B, i + 3, none⟩)] 162 (0, 0)), fun u _ => 2 - (intOf (u 26)).toNat, ?_, ?_⟩
 ·exact ⟨0, by omega, rfl, hrb.keep hFc' id id fun _ _ y => y, hFc'.keep hBb id, hFc, hbc⟩
 rintro u w29 ⟨j, hj, h26, hr, hB29, hF, hbS⟩
 change u 26 = .int .i64 j at h26
 simp only [h26, vq, eqV, nilV]
 have hSl := lt_of_blk hbS
 have hB29l := lt_of_blk hB29
 have hl29 := hr.lt
 refine br_dec (fun hj2 => ?_) (fun hj2 => ?_)
 ·obtain ⟨x, hx⟩ := hcell j (by omega)
  have hCj : (dst s2 C2 (i + 2) j).2[i + 2 + j]? = some (.int .i8 x) := by rw [dst_get s2 C2 (i + 2) j j (Nat.le_refl _), hx]
  have hic := (Array.getElem?_eq_some_iff.1 hCj).1
  refine ⟨by omega, ?_⟩
  have hptr : w29.cell? ⟨S, j, none⟩ = some (.pointer (some ⟨B, i + 2 + j, none⟩)) := by
   match j, (show j < 2 by omega) with
   | 0, _ => exact cellOf hbS rfl
   | 1, _ => exact cellOf hbS rfl
  rw [show wb.drew.heap.size = S from hS.symm]
  simp only [addr_add, Nat.zero_add]
  refine rd_of hptr ?_
  simp only [vq, eqV, nilV]
  refine rd_of (v := .int .i8 x) (cellOf hB29 hCj) ?_
  simp only [vq, eqV, nilV]
  refine allocC_of fun w43 hb43 hs43 hf43 => ?_
  refine stC_one hb43 (by simp) rfl fun w44 hb44 hf44 => ?_
  have hF44 : Fm none' w29 w44 := hf43.trans' hf44 (by rintro i hi rfl; omega)
  refine rmeth_signed ?_
  refine (signed86_c (k := 8) (by omega) (hr.keep hF44 id id fun _ _ y => y) hb44 (by simp) (by omega) (by omega) (by intro e; have := hl29.2.2 _ e; omega)).mono ?_
  rintro _ w50 ⟨rfl, h50, hb50, hf50⟩
  refine rd_of (v := .int .i64 (rdS 8 (dst s2 C2 (i + 2) j).1).1) (cellOf hb50 rfl) ?_
  simp only [vq, eqV, nilV]
  have hB50 := hf50.keep (hF44.keep hB29 id) (by rintro (e | e | e); exact hBA e; exact hBR e; omega)
  have hbS50 := hf50.keep (hF44.keep hbS id) (by rintro (e | e | e) <;> omega)
  refine stC_one hB50 hic rfl fun w55 hB55 hf55 => ?_
  rw [w64 (n := (j : Int) + 1) (by omega)]
  refine ⟨⟨j + 1, by omega, rfl, h50.keep hf55 (fun e => hBA e.symm) (fun e => hBR e.symm) (fun m hm e => hBg (by rw [hm, e])), hB55, ?_, hf55.keep hbS50 (by omega)⟩, ?_⟩
  ·refine ((hF.trans hF44.none).trans' hf50 ?_).trans' hf55 ?_
   ·rintro m hm (e | e | e)
    ·exact .inl e
    ·exact .inr (.inl e)
    ·have := hF.size; omega
   ·rintro m hm e; exact .inr (.inr e)
  ·show 2 - ((j : Int) + 1).toNat < 2 - (j : Int).toNat; omega
 ·have : j = 2 := by omega
  subst this
  have ht : (dst s2 C2 (i + 2) 2).2[i + 4]? = some (.int .i64 t) := by rw [show i + 4 = i + 2 + 2 from rfl, dst_get s2 C2 (i + 2) 2 2 (Nat.le_refl _), show i + 2 + 2 = i + 4 from rfl, hC2g 4 (by omega), h4]
  have htc := (Array.getElem?_eq_some_iff.1 ht).1
  refine rd_of (v := .int .i64 t) (cellOf hB29 ht) ?_
  simp only [vq, eqV, nilV]
  refine allocC_of fun w61 hb61 hs61 hf61 => ?_
  refine stC_one hb61 (by simp) rfl fun w62 hb62 hf62 => ?_
  have hF62 : Fm none' w29 w62 := hf61.trans' hf62 (by rintro i hi rfl; omega)
  refine (rnum30_c (k := 3) (by omega) (hr.keep hF62 id id fun _ _ y => y) hb62 rfl (by omega) (by omega) (by intro e; have := hl29.2.2 _ e; omega)).mono ?_
  rintro _ w64' ⟨rfl, h64, hb64, hf64⟩
  refine rd_of (v := .int .i64 (IntKind.i64.wrap (rdW 3 (dst s2 C2 (i + 2) 2).1).1)) (cellOf hb64 rfl) ?_
  simp only [vq, eqV, nilV]
  have hB64 := hf64.keep (hF62.keep hB29 id) (by rintro (e | e | e); exact hBA e; exact hBR e; omega)
  refine stC_one hB64 htc rfl fun w67 hB67 hf67 => ⟨rfl, h64.keep hf67 (fun e => hBA e.symm) (fun e => hBR e.symm) (fun m hm e => hBg (by rw [hm, e])), hB67, ?_⟩
  refine ((hF.trans hF62.none).trans' hf64 ?_).trans' hf67 ?_
  ·rintro m hm (e | e | e)
   ·exact .inl e
   ·exact .inr (.inl e)
   ·have := hF.size; omega
  ·rintro m hm e; exact .inr (.inr e)
end Go.Proofs.YtipikchkbmgloaaGreatDoor
namespace Go.Proofs.YtipikchkbmgloaaGreatDoor
set_option linter.unusedSimpArgs false
set_option linter.unusedVariables false
open Go Go.RowKit VC
def blank (k : Int) : Msg := ⟨k, 0, 0, 0, 0, 0, 0, 0, 0, 0, 0, 0, 0, 0, 0, 0, 0, 0, 0, 0, 0, 0, []⟩
def rdCmd (s : RS) : Msg × RS :=
 let a := rdW 16 s
 let b := rdW 2 a.2
 let c := rdS 8 b.2
 let d := rdS 8 c.2
 let t := rdW 3 d.2
 ({ blank 2 with cq := IntKind.u16.wrap a.1, cb := IntKind.u8.wrap b.1, cdx := IntKind.i8.wrap c.1, cdy := IntKind.i8.wrap d.1, ct := IntKind.i64.wrap (IntKind.i64.wrap t.1 + 1) }, t.2)
def rdFire (s : RS) : Msg × RS :=
 let a := rdW 16 s
 let b := rdW 1 a.2
 let x := stepV 18 65536 b.2
 let y := stepV 18 65536 x.2
 let z := stepV 18 65536 y.2
 ({ blank 3 with prov := IntKind.u16.wrap a.1, shot := IntKind.i64.wrap b.1, d0 := x.1, d1 := y.1, d2 := z.1 }, z.2)
def rdMoved (s : RS) : Msg × RS :=
 let a := rdW 16 s
 let x := stepV 32 (-1) a.2
 let y := stepV 32 (-1) x.2
 let z := stepV 32 (-1) y.2
 let x' := stepV 32 (-1) z.2
 let y' := stepV 32 (-1) x'.2
 let z' := stepV 32 (-1) y'.2
 ({ blank 6 with seq := IntKind.u16.wrap a.1, p0 := x.1, p1 := y.1, p2 := z.1, v0 := x'.1, v1 := y'.1, v2 := z'.1 }, z'.2)
def rdBound (s : RS) : Msg × RS :=
 let a := rdW 16 s
 let b := rdId a.2
 ({ blank 7 with prov := IntKind.u16.wrap a.1, id := b.1 }, b.2)
def rdWelcome (s : RS) : Msg × RS := ({ blank 5 with id := (rdId s).1 }, (rdId s).2)
def rdDenied (s : RS) : Msg × RS :=
 let a := rdW 16 s
 let b := rdW 4 a.2
 ({ blank 8 with prov := IntKind.u16.wrap a.1, why := IntKind.i64.wrap b.1 }, rdF (decide (1 ≤ IntKind.i64.wrap b.1) && decide (IntKind.i64.wrap b.1 ≤ 10)) b.2)
def rdSnap (s : RS) : Msg × RS :=
 let a := rdW 32 s
 let b := rdW 32 a.2
 let n := rdW 10 b.2
 let l := rdB n.1.toNat n.2 []
 ({ blank 9 with tick := IntKind.u32.wrap a.1, bse := IntKind.u32.wrap b.1, bytes := l.1 }, l.2)
def rdFields (k : Int) (s : RS) : Msg × RS :=
 if k = 2 then rdCmd s else if k = 3 then rdFire s else if k = 6 then rdMoved s else if k = 7 then rdBound s else if k = 5 then rdWelcome s else if k = 8 then rdDenied s else if k = 9 then rdSnap s else (blank k, s)
theorem vst3 {k : Nat} {d : Int} {s : RS} {C : Array Value} {i : Nat} {x y z : Int} {s1 s2 s3 : RS} (hx : stepV k d s = (x, s1)) (hy : stepV k d s1 = (y, s2)) (hz : stepV k d s2 = (z, s3)) :
  vst k d s C i 3 = (s3, ((C.setIfInBounds i (.int .i64 x)).setIfInBounds (i + 1) (.int .i64 y)).setIfInBounds (i + 2) (.int .i64 z)) := by
 simp only [vst, hx, hy, hz, Nat.add_zero]
variable {w : World} {base A R B tB : Nat} {g : Option Nat} {s : RS}
def FdR (base A R B tB : Nat) (g : Option Nat) (w : World) (k : Int) (r : Msg × RS) (v : Value) (w' : World) : Prop :=
 v = .bool (known (blank k)) ∧ ∃ p cp, RdAt w' base A R r.2 g ∧ w'.heap[B]? = some (.cells (msgC r.1 p cp).toArray tB (0, 0)) ∧ Fm (fun i => i = A ∨ i = R ∨ i = B) w w' ∧
  w'.ownsRow base 5 1 (.slice p r.1.bytes.length cp) r.1.bytes.length (r.1.bytes.map (Value.int .u8)) ∧ (∀ ad, p = some ad → w.heap.size ≤ ad.block)
theorem FdR.plain {k : Int} {r : Msg × RS} {w' : World} (hk : known (blank k) = true) (hb : r.1.bytes = []) (h : RdAt w' base A R r.2 g) (hB : w'.heap[B]? = some (.cells (msgC r.1 none 0).toArray tB (0, 0))) (hf : Fm (fun i => i = A ∨ i = R ∨ i = B) w w') :
  FdR base A R B tB g w k r (.bool true) w' := ⟨by rw [hk], none, 0, h, hB, hf, by rw [hb]; exact ⟨rfl, .inl ⟨rfl, rfl⟩⟩, fun _ e => by cases e⟩
theorem chainR {f : FuncId} {args : List Value} {C : Array Value} {s' : RS} {Q : Value → World → Prop} (h : callV Tryz.prog f args w (RdP base A R B tB g w s' C))
  (k : ∀ w1, RdAt w1 base A R s' g → w1.heap[B]? = some (.cells C tB (0, 0)) → Fm (fun i => i = A ∨ i = R ∨ i = B) w w1 → Q (.tuple #[]) w1) : callV Tryz.prog f args w Q :=
 h.mono fun v w1 ⟨e, h1, h2, h3⟩ => by subst e; exact k w1 h1 h2 h3
set_option maxHeartbeats 4000000 in
set_option maxRecDepth 20000 in
theorem rfields22_c {k : Int} (h : RdAt w base A R s g) (hB : w.heap[B]? = some (.cells (msgC (blank k) none 0).toArray tB (0, 0))) (hBA : B ≠ A) (hBR : B ≠ R) (hBg : g ≠ some B) (hbase : base ≤ w.heap.size) :
  callV Tryz.prog 20 [rv A, .pointer (some ⟨B, 0, none⟩)] w (FdR base A R B tB g w k (rdFields k s)) := by
 have hBl := lt_of_blk hB
 refine vc20 _ ⟨B, 0, none⟩ w _ (rd_of (v := .int .i64 k) (cellOf hB rfl) ?_)
 simp only [vq, eqV, nilV, addr_add, Nat.zero_add]
 refine ⟨fun _ w' => w = w' ∧ k = 8, ?_, ?_⟩
 ·refine br_dec (fun k1 => ?_) (fun k1 => ?_)
  ·have : rdFields k s = (blank k, s) := by unfold rdFields; rw [k1]; rfl
   rw [this]
   exact FdR.plain (by rw [k1]; rfl) rfl h hB (Fm.refl _ _)
  refine br_dec (fun k4 => ?_) (fun k4 => ?_)
  ·have : rdFields k s = (blank k, s) := by unfold rdFields; rw [k4]; rfl
   rw [this]
   exact FdR.plain (by rw [k4]; rfl) rfl h hB (Fm.refl _ _)
  refine br_dec (fun k2 => ?_) (fun k2 => ?_)
  ·subst k2
   obtain ⟨⟨a, s1⟩, ha⟩ : ∃ r, rdW 16 s = r := ⟨_, rfl⟩
   obtain ⟨⟨b, s2⟩, hb⟩ : ∃ r, rdW 2 s1 = r := ⟨_, rfl⟩
   obtain ⟨⟨x, s3⟩, hx⟩ : ∃ r, rdS 8 s2 = r := ⟨_, rfl⟩
   obtain ⟨⟨y, s4⟩, hy⟩ : ∃ r, rdS 8 s3 = r := ⟨_, rfl⟩
   obtain ⟨⟨t, s5⟩, ht⟩ : ∃ r, rdW 3 s4 = r := ⟨_, rfl⟩
   have hr : rdFields 2 s = ({ blank 2 with cq := IntKind.u16.wrap a, cb := IntKind.u8.wrap b, cdx := IntKind.i8.wrap x, cdy := IntKind.i8.wrap y, ct := IntKind.i64.wrap (IntKind.i64.wrap t + 1) }, s5) := by
    show rdCmd s = _
    unfold rdCmd
    simp only [ha, hb, hx, hy, ht]
   rw [hr]
   refine chainR (rcommand40_c (i := 2) h hB rfl rfl rfl rfl rfl hBA hBR hBg) fun w1 h1 hB1 hf1 => ?_
   have hc : ∀ C : Array Value, rdC s C 2 = (s5, ((((C.setIfInBounds 2 (.int .u16 (IntKind.u16.wrap a))).setIfInBounds 3 (.int .u8 (IntKind.u8.wrap b))).setIfInBounds 4 (.int .i8 (IntKind.i8.wrap x))).setIfInBounds 5 (.int .i8 (IntKind.i8.wrap y))).setIfInBounds 6 (.int .i64 (IntKind.i64.wrap (IntKind.i64.wrap t + 1)))) := by
    intro C
    unfold rdC
    simp only [ha, hb, dst, hx, hy, ht, Nat.add_zero, Nat.reduceAdd]
   rw [hc] at h1 hB1
   exact FdR.plain rfl rfl h1 hB1 hf1
  refine br_dec (fun k3 => ?_) (fun k3 => ?_)
  ·subst k3
   obtain ⟨⟨a, s1⟩, ha⟩ : ∃ r, rdW 16 s = r := ⟨_, rfl⟩
   obtain ⟨⟨b, s2⟩, hb⟩ : ∃ r, rdW 1 s1 = r := ⟨_, rfl⟩
   obtain ⟨⟨x, s3⟩, hx⟩ : ∃ r, stepV 18 65536 s2 = r := ⟨_, rfl⟩
   obtain ⟨⟨y, s4⟩, hy⟩ : ∃ r, stepV 18 65536 s3 = r := ⟨_, rfl⟩
   obtain ⟨⟨z, s5⟩, hz⟩ : ∃ r, stepV 18 65536 s4 = r := ⟨_, rfl⟩
   have hr : rdFields 3 s = ({ blank 3 with prov := IntKind.u16.wrap a, shot := IntKind.i64.wrap b, d0 := x, d1 := y, d2 := z }, s5) := by
    show rdFire s = _
    unfold rdFire
    simp only [ha, hb, hx, hy, hz]
   rw [hr]
   refine chainR (rnum41_c (k := 16) (by omega) h hB (i := 7) rfl hBA hBR hBg) fun w1 h1 hB1 hf1 => ?_
   rw [ha] at h1 hB1
   refine chainR (rnum30_c (k := 1) (i := 9) (x := 0) (by omega) h1 hB1 rfl hBA hBR hBg) fun w2 h2 hB2 hf2 => ?_
   rw [hb] at h2 hB2
   refine chainR (rvec42_c (k := 18) (d := 65536) (i := 10) (x0 := 0) (x1 := 0) (x2 := 0) (by omega) h2 hB2 rfl rfl rfl hBA hBR hBg) fun w3 h3 hB3 hf3 => ?_
   rw [vst3 hx hy hz] at h3 hB3
   exact FdR.plain rfl rfl h3 hB3 ((hf1.trans hf2).trans hf3)
  refine br_dec (fun k6 => ?_) (fun k6 => ?_)
  ·subst k6
   obtain ⟨⟨a, s1⟩, ha⟩ : ∃ r, rdW 16 s = r := ⟨_, rfl⟩
   obtain ⟨⟨x, s3⟩, hx⟩ : ∃ r, stepV 32 (-1) s1 = r := ⟨_, rfl⟩
   obtain ⟨⟨y, s4⟩, hy⟩ : ∃ r, stepV 32 (-1) s3 = r := ⟨_, rfl⟩
   obtain ⟨⟨z, s5⟩, hz⟩ : ∃ r, stepV 32 (-1) s4 = r := ⟨_, rfl⟩
   obtain ⟨⟨x', s6⟩, hx'⟩ : ∃ r, stepV 32 (-1) s5 = r := ⟨_, rfl⟩
   obtain ⟨⟨y', s7⟩, hy'⟩ : ∃ r, stepV 32 (-1) s6 = r := ⟨_, rfl⟩
   obtain ⟨⟨z', s8⟩, hz'⟩ : ∃ r, stepV 32 (-1) s7 = r := ⟨_, rfl⟩
   have hr : rdFields 6 s = ({ blank 6 with seq := IntKind.u16.wrap a, p0 := x, p1 := y, p2 := z, v0 := x', v1 := y', v2 := z' }, s8) := by
    show rdMoved s = _
    unfold rdMoved
    simp only [ha, hx, hy, hz, hx', hy', hz']
   rw [hr]
   refine chainR (rnum41_c (k := 16) (by omega) h hB (i := 1) rfl hBA hBR hBg) fun w1 h1 hB1 hf1 => ?_
   rw [ha] at h1 hB1
   refine chainR (rvec42_c (k := 32) (d := -1) (i := 14) (x0 := 0) (x1 := 0) (x2 := 0) (by omega) h1 hB1 rfl rfl rfl hBA hBR hBg) fun w2 h2 hB2 hf2 => ?_
   rw [vst3 hx hy hz] at h2 hB2
   refine chainR (rvec42_c (k := 32) (d := -1) (i := 17) (x0 := 0) (x1 := 0) (x2 := 0) (by omega) h2 hB2 rfl rfl rfl hBA hBR hBg) fun w3 h3 hB3 hf3 => ?_
   rw [vst3 hx' hy' hz'] at h3 hB3
   exact FdR.plain rfl rfl h3 hB3 ((hf1.trans hf2).trans hf3)
  refine br_dec (fun k7 => ?_) (fun k7 => ?_)
  ·subst k7
   refine chainR (rnum41_c (k := 16) (by omega) h hB (i := 7) rfl hBA hBR hBg) fun w1 h1 hB1 hf1 => ?_
   refine chainR (rid43_c (i := 8) (x := 0) h1 hB1 rfl hBA hBR hBg) fun w2 h2 hB2 hf2 => ?_
   exact FdR.plain (r := rdBound s) rfl rfl h2 hB2 (hf1.trans hf2)
  refine br_dec (fun k5 => ?_) (fun k5 => ?_)
  ·subst k5
   refine chainR (rid43_c (i := 8) (x := 0) h hB rfl hBA hBR hBg) fun w2 h2 hB2 hf2 => ?_
   exact FdR.plain (r := rdWelcome s) rfl rfl h2 hB2 hf2
  refine br_dec (fun k8 => ⟨rfl, k8⟩) (fun k8 => ?_)
  refine br_dec (fun k9 => ?_) (fun k9 => ?_)
  ·subst k9
   refine chainR (rnum45_c (k := 32) (by omega) h hB (i := 20) rfl hBA hBR hBg) fun w1 h1 hB1 hf1 => ?_
   refine chainR (rnum45_c (k := 32) (i := 21) (x := 0) (by omega) h1 hB1 rfl hBA hBR hBg) fun w2 h2 hB2 hf2 => ?_
   have hB2' : w2.drew.heap[B]? = _ := hB2
   have hF2 : Fm (fun i => i = A ∨ i = R ∨ i = B) w w2.drew := (hf1.trans hf2).trans (Fm.drew w2).none
   refine ⟨fun w' => True, trivial, ?_⟩
   simp only [vq, eqV, nilV]
   refine rnila_bytes ⟨fun _ _ => rnila_bytes trivial, rmeth_bytes ?_⟩
   refine (bytes85_c (i := 22) h2.drew hB2' rfl hBA hBR hBg (Nat.le_trans hbase hF2.size)).mono ?_
   rintro v3 w3 ⟨p, cp, ⟨rfl, h3, hB3, hf3⟩, hown, hfr⟩
   exact ⟨rfl, p, cp, h3, hB3, hF2.trans hf3, hown, fun ad e => Nat.le_trans hF2.size (hfr ad e)⟩
  ·have : rdFields k s = (blank k, s) := by unfold rdFields; rw [if_neg k2, if_neg k3, if_neg k6, if_neg k7, if_neg k5, if_neg k8, if_neg k9]
   rw [this]
   have hk : known (blank k) = false := by
    unfold known
    rw [Bool.and_eq_false_iff, decide_eq_false_iff_not, decide_eq_false_iff_not]
    show ¬ 1 ≤ k ∨ ¬ k ≤ 9
    omega
   exact ⟨by rw [hk], none, 0, h, hB, Fm.refl _ _, ⟨rfl, .inl ⟨rfl, rfl⟩⟩, fun _ e => by cases e⟩
 ·rintro u53 w54 ⟨e0, k8⟩
  subst e0
  subst k8
  refine chainR (rnum41_c (k := 16) (by omega) h hB (i := 7) rfl hBA hBR hBg) fun w1 h1 hB1 hf1 => ?_
  refine chainR (rnum44_c (k := 4) (i := 13) (x := 0) (by omega) h1 hB1 rfl hBA hBR hBg) fun w2 h2 hB2 hf2 => ?_
  have hB2' : w2.drew.heap[B]? = _ := hB2
  have hF2 : Fm (fun i => i = A ∨ i = R ∨ i = B) w w2.drew := (hf1.trans hf2).trans (Fm.drew w2).none
  obtain ⟨y, hy⟩ : ∃ y, IntKind.i64.wrap (rdW 4 (rdW 16 s).2).1 = y := ⟨_, rfl⟩
  rw [hy] at hB2'
  have fin : ∀ b : Bool, b = (decide (1 ≤ y) && decide (y ≤ 10)) → callV Tryz.prog 75 [.pointer (some ⟨A, 0, none⟩), .bool b] w2.drew fun v w' => w'.heap[B]? = w2.drew.heap[B]? ∧ FdR base A R B tB g w 8 (rdDenied s) (.bool true) w' := by
   intro b hb
   refine (within31_c b h2.drew).mono ?_
   rintro _ w3 ⟨rfl, h3, hf3⟩
   have hB3 := hf3.keep hB2' hBA
   refine ⟨hB3.trans hB2'.symm, FdR.plain (r := rdDenied s) rfl rfl ?_ ?_ (hF2.trans (hf3.mono fun i _ e => .inl e))⟩
   ·rw [hb, ← hy] at h3; exact h3
   ·rw [← hy] at hB3; exact hB3
  refine ⟨fun w' => w'.heap[B]? = w2.drew.heap[B]?, rfl, ?_⟩
  simp only [vq, eqV, nilV]
  refine rd_of (v := .int .i64 y) (cellOf hB2' rfl) ⟨fun w' hw => rd_of (cellOf (hw.trans hB2') rfl) rfl, ?_⟩
  simp only [vq, eqV, nilV]
  refine br_dec (fun hd1 => ?_) (fun hd1 => ?_)
  ·refine rd_of (v := .int .i64 y) (cellOf hB2' rfl) ⟨fun w' hw => rd_of (cellOf (hw.trans hB2') rfl) rfl, ?_⟩
   simp only [vq, eqV, nilV]
   refine rnila_within ⟨fun _ _ => rnila_within trivial, rmeth_within ?_⟩
   exact fin _ (by rw [decide_eq_true hd1]; rfl)
  ·refine rnila_within ⟨fun _ _ => rnila_within trivial, rmeth_within ?_⟩
   exact fin false (by rw [decide_eq_false hd1]; rfl)
end Go.Proofs.YtipikchkbmgloaaGreatDoor
namespace Go.Proofs.YtipikchkbmgloaaGreatDoor
set_option linter.unusedSimpArgs false
set_option linter.unusedVariables false
open Go VC
theorem vc23 (a0 : Int) (a1 : Int) (a20 : Int) (a21 : Int) (a22 : Int) (a23 : Int) (a24 : Int) (a3 : Int) (a4 : Int) (a5 : Int) (a60 : Int) (a61 : Int) (a62 : Int) (a7 : Int) (a80 : Int) (a81 : Int) (a82 : Int) (a90 : Int) (a91 : Int) (a92 : Int) (a10 : Int) (a11 : Int) (a12p : Option Addr) (a12n : Nat) (a12c : Nat) (b0 : Int) (b1 : Int) (b20 : Int) (b21 : Int) (b22 : Int) (b23 : Int) (b24 : Int) (b3 : Int) (b4 : Int) (b5 : Int) (b60 : Int) (b61 : Int) (b62 : Int) (b7 : Int) (b80 : Int) (b81 : Int) (b82 : Int) (b90 : Int) (b91 : Int) (b92 : Int) (b10 : Int) (b11 : Int) (b12p : Option Addr) (b12n : Nat) (b12c : Nat) (w : World) (R : Value → World → Prop)
 (h : allocC w (Obj.cells #[Value.int IntKind.i64 a0, Value.int IntKind.u16 a1, Value.int IntKind.u16 a20, Value.int IntKind.u8 a21, Value.int IntKind.i8 a22, Value.int IntKind.i8 a23, Value.int IntKind.i64 a24, Value.int IntKind.u16 a3, Value.int IntKind.i64 a4, Value.int IntKind.i64 a5, Value.int IntKind.i64 a60, Value.int IntKind.i64 a61, Value.int IntKind.i64 a62, Value.int IntKind.i64 a7, Value.int IntKind.i64 a80, Value.int IntKind.i64 a81, Value.int IntKind.i64 a82, Value.int IntKind.i64 a90, Value.int IntKind.i64 a91, Value.int IntKind.i64 a92, Value.int IntKind.u32 a10, Value.int IntKind.u32 a11, Value.slice a12p a12n a12c] (41 : Nat)) fun n0 w1 => allocC w1 (Obj.cells #[Value.int IntKind.i64 b0, Value.int IntKind.u16 b1, Value.int IntKind.u16 b20, Value.int IntKind.u8 b21, Value.int IntKind.i8 b22, Value.int IntKind.i8 b23, Value.int IntKind.i64 b24, Value.int IntKind.u16 b3, Value.int IntKind.i64 b4, Value.int IntKind.i64 b5, Value.int IntKind.i64 b60, Value.int IntKind.i64 b61, Value.int IntKind.i64 b62, Value.int IntKind.i64 b7, Value.int IntKind.i64 b80, Value.int IntKind.i64 b81, Value.int IntKind.i64 b82, Value.int IntKind.i64 b90, Value.int IntKind.i64 b91, Value.int IntKind.i64 b92, Value.int IntKind.u32 b10, Value.int IntKind.u32 b11, Value.slice b12p b12n b12c] (41 : Nat)) fun n2 w3 => rd (World.cell? w3 { block := n0, off := (0 : Nat) : Addr }) fun v4 => isK IntKind.i64 v4 fun i5 => rd (World.cell? w3 { block := n2, off := (0 : Nat) : Addr }) fun v6 => isK IntKind.i64 v6 fun i7 => br (decide (i5 = i7)) (rd (World.cell? w3 { block := n0, off := (1 : Nat) : Addr }) fun v8 => isK IntKind.u16 v8 fun i9 => rd (World.cell? w3 { block := n2, off := (1 : Nat) : Addr }) fun v10 => isK IntKind.u16 v10 fun i11 => br (decide (i9 = i11)) (rd (cellsAt w3 { block := n0, off := (2 : Nat) : Addr } (5 : Nat)) fun l12 => rd (cellsAt w3 { block := n2, off := (2 : Nat) : Addr } (5 : Nat)) fun l13 => rd (Option.map Value.bool (eqL [(0 : Nat), (1 : Nat), (2 : Nat), (3 : Nat), (4 : Nat)] l12 l13)) fun v14 => isB v14 fun t15 => br t15 (rd (World.cell? w3 { block := n0, off := (7 : Nat) : Addr }) fun v16 => isK IntKind.u16 v16 fun i17 => rd (World.cell? w3 { block := n2, off := (7 : Nat) : Addr }) fun v18 => isK IntKind.u16 v18 fun i19 => br (decide (i17 = i19)) (rd (World.cell? w3 { block := n0, off := (8 : Nat) : Addr }) fun v20 => isK IntKind.i64 v20 fun i21 => rd (World.cell? w3 { block := n2, off := (8 : Nat) : Addr }) fun v22 => isK IntKind.i64 v22 fun i23 => br (decide (i21 = i23)) (rd (World.cell? w3 { block := n0, off := (9 : Nat) : Addr }) fun v24 => isK IntKind.i64 v24 fun i25 => rd (World.cell? w3 { block := n2, off := (9 : Nat) : Addr }) fun v26 => isK IntKind.i64 v26 fun i27 => br (decide (i25 = i27)) (rd (cellsAt w3 { block := n0, off := (10 : Nat) : Addr } (3 : Nat)) fun l28 => rd (cellsAt w3 { block := n2, off := (10 : Nat) : Addr } (3 : Nat)) fun l29 => rd (Option.map Value.bool (eqL [(0 : Nat), (1 : Nat), (2 : Nat)] l28 l29)) fun v30 => isB v30 fun t31 => br t31 (rd (World.cell? w3 { block := n0, off := (13 : Nat) : Addr }) fun v32 => isK IntKind.i64 v32 fun i33 => rd (World.cell? w3 { block := n2, off := (13 : Nat) : Addr }) fun v34 => isK IntKind.i64 v34 fun i35 => br (decide (i33 = i35)) (rd (cellsAt w3 { block := n0, off := (14 : Nat) : Addr } (3 : Nat)) fun l36 => rd (cellsAt w3 { block := n2, off := (14 : Nat) : Addr } (3 : Nat)) fun l37 => rd (Option.map Value.bool (eqL [(0 : Nat), (1 : Nat), (2 : Nat)] l36 l37)) fun v38 => isB v38 fun t39 => br t39 (rd (cellsAt w3 { block := n0, off := (17 : Nat) : Addr } (3 : Nat)) fun l40 => rd (cellsAt w3 { block := n2, off := (17 : Nat) : Addr } (3 : Nat)) fun l41 => rd (Option.map Value.bool (eqL [(0 : Nat), (1 : Nat), (2 : Nat)] l40 l41)) fun v42 => isB v42 fun t43 => br t43 (rd (World.cell? w3 { block := n0, off := (20 : Nat) : Addr }) fun v44 => isK IntKind.u32 v44 fun i45 => rd (World.cell? w3 { block := n2, off := (20 : Nat) : Addr }) fun v46 => isK IntKind.u32 v46 fun i47 => br (decide (i45 = i47)) (rd (World.cell? w3 { block := n0, off := (21 : Nat) : Addr }) fun v48 => isK IntKind.u32 v48 fun i49 => rd (World.cell? w3 { block := n2, off := (21 : Nat) : Addr }) fun v50 => isK IntKind.u32 v50 fun i51 => br (decide (i49 = i51)) (rd (World.cell? w3 { block := n0, off := (22 : Nat) : Addr }) fun v52 => isSl v52 fun o53 n54 n55 => rd (World.cell? w3 { block := n2, off := (22 : Nat) : Addr }) fun v56 => isSl v56 fun o57 n58 n59 => callV Tryz.prog (52 : Nat) [Value.slice o53 n54 n55, Value.slice o57 n58 n59] w3 fun v60 w61 => isB v60 fun t62 => R (Value.bool t62) w61) (R (Value.bool false) w3)) (R (Value.bool false) w3)) (R (Value.bool false) w3)) (R (Value.bool false) w3)) (R (Value.bool false) w3)) (R (Value.bool false) w3)) (R (Value.bool false) w3)) (R (Value.bool false) w3)) (R (Value.bool false) w3)) (R (Value.bool false) w3)) (R (Value.bool false) w3)) (R (Value.bool false) w3)) :
 callV Tryz.prog 23 [Value.agg #[Value.int IntKind.i64 a0, Value.int IntKind.u16 a1, Value.int IntKind.u16 a20, Value.int IntKind.u8 a21, Value.int IntKind.i8 a22, Value.int IntKind.i8 a23, Value.int IntKind.i64 a24, Value.int IntKind.u16 a3, Value.int IntKind.i64 a4, Value.int IntKind.i64 a5, Value.int IntKind.i64 a60, Value.int IntKind.i64 a61, Value.int IntKind.i64 a62, Value.int IntKind.i64 a7, Value.int IntKind.i64 a80, Value.int IntKind.i64 a81, Value.int IntKind.i64 a82, Value.int IntKind.i64 a90, Value.int IntKind.i64 a91, Value.int IntKind.i64 a92, Value.int IntKind.u32 a10, Value.int IntKind.u32 a11, Value.slice a12p a12n a12c],
 Value.agg #[Value.int IntKind.i64 b0, Value.int IntKind.u16 b1, Value.int IntKind.u16 b20, Value.int IntKind.u8 b21, Value.int IntKind.i8 b22, Value.int IntKind.i8 b23, Value.int IntKind.i64 b24, Value.int IntKind.u16 b3, Value.int IntKind.i64 b4, Value.int IntKind.i64 b5, Value.int IntKind.i64 b60, Value.int IntKind.i64 b61, Value.int IntKind.i64 b62, Value.int IntKind.i64 b7, Value.int IntKind.i64 b80, Value.int IntKind.i64 b81, Value.int IntKind.i64 b82, Value.int IntKind.i64 b90, Value.int IntKind.i64 b91, Value.int IntKind.i64 b92, Value.int IntKind.u32 b10, Value.int IntKind.u32 b11, Value.slice b12p b12n b12c]] w R :=
 vc_of hm noHints Tryz.func23 ent23 (by kernel_rfl) h
end Go.Proofs.YtipikchkbmgloaaGreatDoor
namespace Go.Proofs.YtipikchkbmgloaaGreatDoor
set_option linter.unusedSimpArgs false
set_option linter.unusedVariables false
open Go VC
theorem vc53 (ap : Option Addr) (an : Nat) (ac : Nat) (w : World) (R : Value → World → Prop)
 (h : allocC w (Obj.cells #[Value.slice none (0 : Nat) (0 : Nat), Value.int IntKind.i64 (0 : Int), Value.bool false] (84 : Nat)) fun n0 w1 => callV Tryz.prog (71 : Nat) [Value.pointer (some { block := n0, off := (0 : Nat) : Addr }), Value.int IntKind.u64 (IntKind.wrap IntKind.u64 (↑an : Int)), Value.int IntKind.i64 (5 : Int)] w1 fun v2 w3 => loopC (alist [((19 : Nat), Value.int IntKind.i64 (0 : Int))]) w3 fun u4 u5 => ∀ (u6 : Nat → Value) (w7 : World), u4 (alist [((19 : Nat), u6 (19 : Nat))]) w7 → rd (orO (binV BinOp.lss (u6 (19 : Nat)) (Value.int IntKind.i64 (↑an : Int))) none) fun v9 => isB v9 fun t10 => br t10 (isInt (u6 (19 : Nat)) fun k11 i12 => rd ap fun a13 => ((0 : Int) ≤ i12 ∧ i12 < (↑an : Int)) ∧ rd (cellsAt w7 (Addr.add a13 (Int.toNat i12 * (23 : Nat))) (23 : Nat)) fun l14 => allocC w7 (Obj.cells #[Value.int IntKind.i64 (0 : Int), Value.int IntKind.u16 (0 : Int), Value.int IntKind.u16 (0 : Int), Value.int IntKind.u8 (0 : Int), Value.int IntKind.i8 (0 : Int), Value.int IntKind.i8 (0 : Int), Value.int IntKind.i64 (0 : Int), Value.int IntKind.u16 (0 : Int), Value.int IntKind.i64 (0 : Int), Value.int IntKind.i64 (0 : Int), Value.int IntKind.i64 (0 : Int), Value.int IntKind.i64 (0 : Int), Value.int IntKind.i64 (0 : Int), Value.int IntKind.i64 (0 : Int), Value.int IntKind.i64 (0 : Int), Value.int IntKind.i64 (0 : Int), Value.int IntKind.i64 (0 : Int), Value.int IntKind.i64 (0 : Int), Value.int IntKind.i64 (0 : Int), Value.int IntKind.i64 (0 : Int), Value.int IntKind.u32 (0 : Int), Value.int IntKind.u32 (0 : Int), Value.slice none (0 : Nat) (0 : Nat)] (41 : Nat)) fun n15 w16 => rd (gd (List.length l14 == (23 : Nat))) fun _x => stC w16 { block := n15, off := (0 : Nat) : Addr } l14 fun w17 => rd (cellsAt w17 { block := n15, off := (0 : Nat) : Addr } (23 : Nat)) fun l18 => callV Tryz.prog (9 : Nat) [Value.agg (List.toArray l18)] w17 fun v19 w20 => isB v19 fun t21 => br (!t21) (R (Value.tuple #[Value.slice none (0 : Nat) (0 : Nat), Value.int IntKind.i64 (1 : Int)]) w20) (heldC (World.drew w20) fun u22 => (∀ (w23 : World), u22 w23 → Value.pointer (some { block := n0, off := (0 : Nat) : Addr }) = Value.pointer (some { block := n0, off := (0 : Nat) : Addr }) ∧ w23 = w23) ∧ (∀ (w25 : World), u22 w25 → Value.pointer (some { block := n0, off := (0 : Nat) : Addr }) = Value.pointer (some { block := n0, off := (0 : Nat) : Addr }) ∧ w25 = w25) ∧ (∀ (w27 : World), u22 w27 → Value.pointer (some { block := n0, off := (0 : Nat) : Addr }) = Value.pointer (some { block := n0, off := (0 : Nat) : Addr }) ∧ w27 = w27) ∧ (∀ (w29 : World), u22 w29 → Value.pointer (some { block := n15, off := (0 : Nat) : Addr }) = Value.pointer (some { block := n15, off := (0 : Nat) : Addr }) ∧ w29 = w29) ∧ rd (World.cell? (World.drew w20) { block := n15, off := (0 : Nat) : Addr }) fun v31 => (∀ (w32 : World), u22 w32 → rd (World.cell? w32 { block := n15, off := (0 : Nat) : Addr }) fun v34 => v34 = v31 ∧ w32 = w32) ∧ isK IntKind.i64 v31 fun i35 => (∀ (w36 : World), u22 w36 → Value.int IntKind.u64 (IntKind.wrap IntKind.u64 i35) = Value.int IntKind.u64 (IntKind.wrap IntKind.u64 i35) ∧ w36 = w36) ∧ callV Tryz.prog (71 : Nat) [Value.pointer (some { block := n0, off := (0 : Nat) : Addr }), Value.int IntKind.u64 (IntKind.wrap IntKind.u64 i35), Value.int IntKind.i64 (4 : Int)] (World.drew w20) fun v38 w39 => callV Tryz.prog (20 : Nat) [Value.iface (80 : Nat) (Value.pointer (some { block := n0, off := (0 : Nat) : Addr })), Value.pointer (some { block := n15, off := (0 : Nat) : Addr })] w39 fun v40 w41 => isB v40 fun t42 => rd (orO (binV BinOp.add (u6 (19 : Nat)) (Value.int IntKind.i64 (1 : Int))) none) fun v43 => isK IntKind.i64 v43 fun i44 => again u4 u5 (alist [((19 : Nat), Value.int IntKind.i64 i44)]) w41 (alist [((19 : Nat), u6 (19 : Nat))]) w7)) (callV Tryz.prog (22 : Nat) [Value.pointer (some { block := n0, off := (0 : Nat) : Addr })] w7 fun v45 w46 => isSl v45 fun o47 n48 n49 => br (decide ((16 : Int) < (↑an : Int))) (R (Value.tuple #[Value.slice none (0 : Nat) (0 : Nat), Value.int IntKind.i64 (5 : Int)]) w46) (br (decide ((1024 : Int) < (↑n48 : Int))) (R (Value.tuple #[Value.slice none (0 : Nat) (0 : Nat), Value.int IntKind.i64 (5 : Int)]) w46) (R (Value.tuple #[Value.slice o47 n48 n49, Value.int IntKind.i64 (0 : Int)]) w46)))) :
 callV Tryz.prog 53 [Value.slice ap an ac] w R :=
 vc_of hm ⟨fun _ => false, fun n => match n with | 8 => .take 0 (.take 1 (.take 2 (.take 3 (.take 4 (.take 5 (.last 6 (.done))))))) | _ => .done, fun n => match n with | 4 => [19] | _ => []⟩ Tryz.func53 ent53 (by kernel_rfl) h
theorem vc9 (a0 : Int) (a1 : Int) (a20 : Int) (a21 : Int) (a22 : Int) (a23 : Int) (a24 : Int) (a3 : Int) (a4 : Int) (a5 : Int) (a60 : Int) (a61 : Int) (a62 : Int) (a7 : Int) (a80 : Int) (a81 : Int) (a82 : Int) (a90 : Int) (a91 : Int) (a92 : Int) (a10 : Int) (a11 : Int) (a12p : Option Addr) (a12n : Nat) (a12c : Nat) (w : World) (R : Value → World → Prop)
 (h : allocC w (Obj.cells #[Value.int IntKind.i64 a0, Value.int IntKind.u16 a1, Value.int IntKind.u16 a20, Value.int IntKind.u8 a21, Value.int IntKind.i8 a22, Value.int IntKind.i8 a23, Value.int IntKind.i64 a24, Value.int IntKind.u16 a3, Value.int IntKind.i64 a4, Value.int IntKind.i64 a5, Value.int IntKind.i64 a60, Value.int IntKind.i64 a61, Value.int IntKind.i64 a62, Value.int IntKind.i64 a7, Value.int IntKind.i64 a80, Value.int IntKind.i64 a81, Value.int IntKind.i64 a82, Value.int IntKind.i64 a90, Value.int IntKind.i64 a91, Value.int IntKind.i64 a92, Value.int IntKind.u32 a10, Value.int IntKind.u32 a11, Value.slice a12p a12n a12c] (41 : Nat)) fun n0 w1 => rd (cellsAt w1 { block := n0, off := (0 : Nat) : Addr } (23 : Nat)) fun l2 => allocC w1 (Obj.cells #[Value.int IntKind.i64 (0 : Int), Value.int IntKind.u16 (0 : Int), Value.int IntKind.u16 (0 : Int), Value.int IntKind.u8 (0 : Int), Value.int IntKind.i8 (0 : Int), Value.int IntKind.i8 (0 : Int), Value.int IntKind.i64 (0 : Int), Value.int IntKind.u16 (0 : Int), Value.int IntKind.i64 (0 : Int), Value.int IntKind.i64 (0 : Int), Value.int IntKind.i64 (0 : Int), Value.int IntKind.i64 (0 : Int), Value.int IntKind.i64 (0 : Int), Value.int IntKind.i64 (0 : Int), Value.int IntKind.i64 (0 : Int), Value.int IntKind.i64 (0 : Int), Value.int IntKind.i64 (0 : Int), Value.int IntKind.i64 (0 : Int), Value.int IntKind.i64 (0 : Int), Value.int IntKind.i64 (0 : Int), Value.int IntKind.u32 (0 : Int), Value.int IntKind.u32 (0 : Int), Value.slice none (0 : Nat) (0 : Nat)] (41 : Nat)) fun n3 w4 => rd (gd (List.length l2 == (23 : Nat))) fun _x => stC w4 { block := n3, off := (0 : Nat) : Addr } l2 fun w5 => allocC w5 (Obj.cells #[Value.slice none (0 : Nat) (0 : Nat), Value.int IntKind.i64 (0 : Int), Value.bool false] (84 : Nat)) fun n6 w7 => callV Tryz.prog (20 : Nat) [Value.iface (80 : Nat) (Value.pointer (some { block := n6, off := (0 : Nat) : Addr })), Value.pointer (some { block := n3, off := (0 : Nat) : Addr })] w7 fun v8 w9 => isB v8 fun t10 => br (!t10) (R (Value.bool false) w9) (rd (World.cell? w9 { block := n6, off := (2 : Nat) : Addr }) fun v11 => isB v11 fun t12 => br t12 (R (Value.bool false) w9) (callV Tryz.prog (22 : Nat) [Value.pointer (some { block := n6, off := (0 : Nat) : Addr })] w9 fun v13 w14 => isSl v13 fun o15 n16 n17 => callV Tryz.prog (21 : Nat) [Value.slice o15 n16 n17] w14 fun v18 w19 => isP v18 fun o20 => allocC w19 (Obj.cells #[Value.pointer o20, Value.int IntKind.i64 (0 : Int)] (92 : Nat)) fun n21 w22 => rd (World.cell? w22 { block := n0, off := (0 : Nat) : Addr }) fun v23 => isK IntKind.i64 v23 fun i24 => allocC w22 (Obj.cells #[Value.int IntKind.i64 (0 : Int), Value.int IntKind.u16 (0 : Int), Value.int IntKind.u16 (0 : Int), Value.int IntKind.u8 (0 : Int), Value.int IntKind.i8 (0 : Int), Value.int IntKind.i8 (0 : Int), Value.int IntKind.i64 (0 : Int), Value.int IntKind.u16 (0 : Int), Value.int IntKind.i64 (0 : Int), Value.int IntKind.i64 (0 : Int), Value.int IntKind.i64 (0 : Int), Value.int IntKind.i64 (0 : Int), Value.int IntKind.i64 (0 : Int), Value.int IntKind.i64 (0 : Int), Value.int IntKind.i64 (0 : Int), Value.int IntKind.i64 (0 : Int), Value.int IntKind.i64 (0 : Int), Value.int IntKind.i64 (0 : Int), Value.int IntKind.i64 (0 : Int), Value.int IntKind.i64 (0 : Int), Value.int IntKind.u32 (0 : Int), Value.int IntKind.u32 (0 : Int), Value.slice none (0 : Nat) (0 : Nat)] (41 : Nat)) fun n25 w26 => stC w26 { block := n25, off := (0 : Nat) : Addr } [Value.int IntKind.i64 i24, Value.int IntKind.u16 (0 : Int), Value.int IntKind.u16 (0 : Int), Value.int IntKind.u8 (0 : Int), Value.int IntKind.i8 (0 : Int), Value.int IntKind.i8 (0 : Int), Value.int IntKind.i64 (0 : Int), Value.int IntKind.u16 (0 : Int), Value.int IntKind.i64 (0 : Int), Value.int IntKind.i64 (0 : Int), Value.int IntKind.i64 (0 : Int), Value.int IntKind.i64 (0 : Int), Value.int IntKind.i64 (0 : Int), Value.int IntKind.i64 (0 : Int), Value.int IntKind.i64 (0 : Int), Value.int IntKind.i64 (0 : Int), Value.int IntKind.i64 (0 : Int), Value.int IntKind.i64 (0 : Int), Value.int IntKind.i64 (0 : Int), Value.int IntKind.i64 (0 : Int), Value.int IntKind.u32 (0 : Int), Value.int IntKind.u32 (0 : Int), Value.slice none (0 : Nat) (0 : Nat)] fun w27 => callV Tryz.prog (20 : Nat) [Value.iface (87 : Nat) (Value.pointer (some { block := n21, off := (0 : Nat) : Addr })), Value.pointer (some { block := n25, off := (0 : Nat) : Addr })] w27 fun v28 w29 => isB v28 fun t30 => rd (cellsAt w29 { block := n0, off := (0 : Nat) : Addr } (23 : Nat)) fun l31 => rd (cellsAt w29 { block := n25, off := (0 : Nat) : Addr } (23 : Nat)) fun l32 => callV Tryz.prog (23 : Nat) [Value.agg (List.toArray l31), Value.agg (List.toArray l32)] w29 fun v33 w34 => isB v33 fun t35 => R (Value.bool t35) w34))) :
 callV Tryz.prog 9 [Value.agg #[Value.int IntKind.i64 a0, Value.int IntKind.u16 a1, Value.int IntKind.u16 a20, Value.int IntKind.u8 a21, Value.int IntKind.i8 a22, Value.int IntKind.i8 a23, Value.int IntKind.i64 a24, Value.int IntKind.u16 a3, Value.int IntKind.i64 a4, Value.int IntKind.i64 a5, Value.int IntKind.i64 a60, Value.int IntKind.i64 a61, Value.int IntKind.i64 a62, Value.int IntKind.i64 a7, Value.int IntKind.i64 a80, Value.int IntKind.i64 a81, Value.int IntKind.i64 a82, Value.int IntKind.i64 a90, Value.int IntKind.i64 a91, Value.int IntKind.i64 a92, Value.int IntKind.u32 a10, Value.int IntKind.u32 a11, Value.slice a12p a12n a12c]] w R :=
 vc_of hm noHints Tryz.func9 ent9 (by kernel_rfl) h
theorem vc62 (ap : Option Addr) (an : Nat) (ac : Nat) (w : World) (R : Value → World → Prop)
 (h : callV Tryz.prog (21 : Nat) [Value.slice ap an ac] w fun v0 w1 => isP v0 fun o2 => allocC w1 (Obj.cells #[Value.pointer o2, Value.int IntKind.i64 (0 : Int)] (92 : Nat)) fun n3 w4 => allocC w4 (Obj.cells #[Value.int IntKind.i64 (0 : Int)] (3 : Nat)) fun n5 w6 => callV Tryz.prog (47 : Nat) [Value.iface (87 : Nat) (Value.pointer (some { block := n3, off := (0 : Nat) : Addr })), Value.pointer (some { block := n5, off := (0 : Nat) : Addr }), Value.int IntKind.i64 (5 : Int)] w6 fun v7 w8 => rd (World.cell? w8 { block := n5, off := (0 : Nat) : Addr }) fun v9 => isK IntKind.i64 v9 fun i10 => callV Tryz.prog (75 : Nat) [Value.pointer (some { block := n3, off := (0 : Nat) : Addr }), Value.bool (decide (i10 ≤ (16 : Int)))] w8 fun v11 w12 => loopC (alist [((6 : Nat), Value.slice none (0 : Nat) (0 : Nat))]) w12 fun u13 u14 => ∀ (u15 : Nat → Value) (w16 : World), u13 (alist [((6 : Nat), u15 (6 : Nat))]) w16 → isSl (u15 (6 : Nat)) fun o18 n19 n20 => rd (World.cell? w16 { block := n5, off := (0 : Nat) : Addr }) fun v21 => isK IntKind.i64 v21 fun i22 => br (decide ((↑n19 : Int) < i22)) (rd (World.cell? w16 { block := n3, off := (1 : Nat) : Addr }) fun v23 => isK IntKind.i64 v23 fun i24 => br (decide (i24 = (0 : Int))) (allocC w16 (Obj.cells #[Value.int IntKind.i64 (0 : Int), Value.int IntKind.u16 (0 : Int), Value.int IntKind.u16 (0 : Int), Value.int IntKind.u8 (0 : Int), Value.int IntKind.i8 (0 : Int), Value.int IntKind.i8 (0 : Int), Value.int IntKind.i64 (0 : Int), Value.int IntKind.u16 (0 : Int), Value.int IntKind.i64 (0 : Int), Value.int IntKind.i64 (0 : Int), Value.int IntKind.i64 (0 : Int), Value.int IntKind.i64 (0 : Int), Value.int IntKind.i64 (0 : Int), Value.int IntKind.i64 (0 : Int), Value.int IntKind.i64 (0 : Int), Value.int IntKind.i64 (0 : Int), Value.int IntKind.i64 (0 : Int), Value.int IntKind.i64 (0 : Int), Value.int IntKind.i64 (0 : Int), Value.int IntKind.i64 (0 : Int), Value.int IntKind.u32 (0 : Int), Value.int IntKind.u32 (0 : Int), Value.slice none (0 : Nat) (0 : Nat)] (41 : Nat)) fun n25 w26 => callV Tryz.prog (47 : Nat) [Value.iface (87 : Nat) (Value.pointer (some { block := n3, off := (0 : Nat) : Addr })), Value.pointer (some { block := n25, off := (0 : Nat) : Addr }), Value.int IntKind.i64 (4 : Int)] w26 fun v27 w28 => callV Tryz.prog (20 : Nat) [Value.iface (87 : Nat) (Value.pointer (some { block := n3, off := (0 : Nat) : Addr })), Value.pointer (some { block := n25, off := (0 : Nat) : Addr })] w28 fun v29 w30 => isB v29 fun t31 => callV Tryz.prog (75 : Nat) [Value.pointer (some { block := n3, off := (0 : Nat) : Addr }), Value.bool t31] w30 fun v32 w33 => isSl (u15 (6 : Nat)) fun o34 n35 n36 => rd (cellsAt w33 { block := n25, off := (0 : Nat) : Addr } (23 : Nat)) fun l37 => runs Tryz.prog (Instr.buildSlice (45 : Nat) (1 : Nat) #[((0 : Nat), Value.agg (List.toArray l37))]) w33 fun v38 w39 => isSl v38 fun o40 n41 n42 => runs Tryz.prog (Builtin.append_ #[(45 : Nat), (45 : Nat)] (45 : Nat) #[Value.slice o34 n35 n36, Value.slice o40 n41 n42]) w39 fun v43 w44 => isSl v43 fun o45 n46 n47 => again u13 u14 (alist [((6 : Nat), Value.slice o45 n46 n47)]) w44 (alist [((6 : Nat), u15 (6 : Nat))]) w16) (rd (World.cell? w16 { block := n3, off := (0 : Nat) : Addr }) fun v48 => isP v48 fun o49 => callV Tryz.prog (76 : Nat) [Value.pointer o49] w16 fun v50 w51 => isB v50 fun t52 => br t52 (callV Tryz.prog (75 : Nat) [Value.pointer (some { block := n3, off := (0 : Nat) : Addr }), Value.bool (decide ((↑an : Int) ≤ (1024 : Int)))] w51 fun v53 w54 => rd (World.cell? w54 { block := n3, off := (1 : Nat) : Addr }) fun v55 => isK IntKind.i64 v55 fun i56 => br (!decide (i56 = (0 : Int))) (rd (World.cell? (World.drew w54) { block := n3, off := (1 : Nat) : Addr }) fun v57 => isK IntKind.i64 v57 fun i58 => R (Value.tuple #[Value.slice none (0 : Nat) (0 : Nat), Value.int IntKind.i64 i58]) (World.drew w54)) (isSl (u15 (6 : Nat)) fun o59 n60 n61 => R (Value.tuple #[Value.slice o59 n60 n61, Value.int IntKind.i64 (0 : Int)]) w54)) (callV Tryz.prog (75 : Nat) [Value.pointer (some { block := n3, off := (0 : Nat) : Addr }), Value.bool false] w51 fun v62 w63 => rd (World.cell? w63 { block := n3, off := (1 : Nat) : Addr }) fun v64 => isK IntKind.i64 v64 fun i65 => br (!decide (i65 = (0 : Int))) (rd (World.cell? (World.drew w63) { block := n3, off := (1 : Nat) : Addr }) fun v66 => isK IntKind.i64 v66 fun i67 => R (Value.tuple #[Value.slice none (0 : Nat) (0 : Nat), Value.int IntKind.i64 i67]) (World.drew w63)) (isSl (u15 (6 : Nat)) fun o68 n69 n70 => R (Value.tuple #[Value.slice o68 n69 n70, Value.int IntKind.i64 (0 : Int)]) w63)))) (rd (World.cell? w16 { block := n3, off := (0 : Nat) : Addr }) fun v71 => isP v71 fun o72 => callV Tryz.prog (76 : Nat) [Value.pointer o72] w16 fun v73 w74 => isB v73 fun t75 => br t75 (callV Tryz.prog (75 : Nat) [Value.pointer (some { block := n3, off := (0 : Nat) : Addr }), Value.bool (decide ((↑an : Int) ≤ (1024 : Int)))] w74 fun v76 w77 => rd (World.cell? w77 { block := n3, off := (1 : Nat) : Addr }) fun v78 => isK IntKind.i64 v78 fun i79 => br (!decide (i79 = (0 : Int))) (rd (World.cell? (World.drew w77) { block := n3, off := (1 : Nat) : Addr }) fun v80 => isK IntKind.i64 v80 fun i81 => R (Value.tuple #[Value.slice none (0 : Nat) (0 : Nat), Value.int IntKind.i64 i81]) (World.drew w77)) (isSl (u15 (6 : Nat)) fun o82 n83 n84 => R (Value.tuple #[Value.slice o82 n83 n84, Value.int IntKind.i64 (0 : Int)]) w77)) (callV Tryz.prog (75 : Nat) [Value.pointer (some { block := n3, off := (0 : Nat) : Addr }), Value.bool false] w74 fun v85 w86 => rd (World.cell? w86 { block := n3, off := (1 : Nat) : Addr }) fun v87 => isK IntKind.i64 v87 fun i88 => br (!decide (i88 = (0 : Int))) (rd (World.cell? (World.drew w86) { block := n3, off := (1 : Nat) : Addr }) fun v89 => isK IntKind.i64 v89 fun i90 => R (Value.tuple #[Value.slice none (0 : Nat) (0 : Nat), Value.int IntKind.i64 i90]) (World.drew w86)) (isSl (u15 (6 : Nat)) fun o91 n92 n93 => R (Value.tuple #[Value.slice o91 n92 n93, Value.int IntKind.i64 (0 : Int)]) w86)))) :
 callV Tryz.prog 62 [Value.slice ap an ac] w R :=
 vc_of hm ⟨fun _ => false, fun n => match n with | 13 => .take 0 (.take 1 (.take 2 (.take 3 (.take 4 (.take 5 (.done)))))) | _ => .done, fun n => match n with | 6 => [6] | _ => []⟩ Tryz.func62 ent62 (by kernel_rfl) h
end Go.Proofs.YtipikchkbmgloaaGreatDoor
namespace Go.Proofs.YtipikchkbmgloaaGreatDoor
set_option linter.unusedSimpArgs false
set_option linter.unusedVariables false
open Go Go.RowKit VC
theorem wrap8 (x : Int) : 0 ≤ IntKind.u8.wrap x ∧ IntKind.u8.wrap x < 256 := by
 simp only [IntKind.wrap, IntKind.bits, IntKind.signed]; simp; omega
theorem pack_range (bs : List Int) : ∀ y ∈ pack bs, 0 ≤ y ∧ y < 256 := by
 have key : ∀ (bs : List Int) (ys : List Int) (n : Nat), (∀ y ∈ ys, 0 ≤ y ∧ y < 256) → ∀ y ∈ packGo ys n bs, 0 ≤ y ∧ y < 256 := by
  intro bs
  induction bs with
  | nil => intro ys n h; exact h
  | cons b bs ih =>
   intro ys n h
   refine ih _ _ fun y hy => ?_
   unfold packStep at hy
   rcases List.mem_or_eq_of_mem_set hy with hy | rfl
   ·split at hy
    ·rcases List.mem_append.1 hy with hy | hy
     ·exact h y hy
     ·simp at hy; omega
    ·exact h y hy
   ·exact wrap8 _
 exact key bs [] 0 fun y hy => by simp at hy
variable {w : World} {base : Nat}
theorem bytes23_c {A : Nat} {T : TypeId} {x : Value} {bs : List Int} {g : Option Nat} (h : WrAt w base A T x bs g) (hl : bs.length ≤ 1125899906842000) :
  callV Tryz.prog 22 [.pointer (some ⟨A, 0, none⟩)] w fun v w' => w'.ownsRow base 5 1 v (pack bs).length ((pack bs).map (Value.int .u8)) ∧ (∀ i, v.ownBlock = some i → w.heap.size ≤ i) ∧ Fm none' w w' := by
 obtain ⟨v, h1, h2, h3, h4, h5⟩ := h
 obtain ⟨p, cp, rfl, -⟩ := own_read h2
 refine vc22 ⟨A, 0, none⟩ w _ (rd_of (v := .slice p (pack bs).length cp) (cellOf h1 rfl) ?_)
 simp only [vq, eqV, nilV]
 have hpl := pack_length bs
 refine (clone46_c (base := base) (BytesAt.of_own h2) h5 (by omega)).mono ?_
 rintro v w1 ⟨hv, hfr, hf⟩
 obtain ⟨p1, c1, rfl, -⟩ := own_read hv
 exact ⟨hv, hfr, hf⟩
theorem reader25_c {p : Option Addr} {c : Nat} {ys : List Int} (h : BytesAt w p ys) (hy : ∀ y ∈ ys, 0 ≤ y ∧ y < 256) (hl : ys.length ≤ 140737488355328) (hb : base ≤ w.heap.size) :
  callV Tryz.prog 21 [.slice p ys.length c] w fun v w' => ∃ R g, v = .pointer (some ⟨R, 0, none⟩) ∧ w.heap.size ≤ R ∧ BrAt w' base R (byteBits ys) g ∧ (∀ i, g = some i → w.heap.size ≤ i) ∧ Fm none' w w' := by
 refine vc21 p ys.length c w _ ?_
 refine (clone46_c (base := base) h hb (by omega)).mono ?_
 rintro v w1 ⟨hv, hfr, hf⟩
 obtain ⟨p1, c1, rfl, -⟩ := own_read hv
 simp only [vq, eqV, nilV]
 refine allocC_of fun w6 hb6 hs6 hf6 => ⟨_, (Value.slice p1 ys.length c1).ownBlock, rfl, hf.size, ⟨_, ys, 0, hb6, hf6.owns hv fun _ _ y => y, rfl, ?_, Nat.zero_le _, rfl, hy, hl⟩, hfr, hf.trans hf6⟩
 intro e
 have := (own_block hv e).2
 obtain ⟨cur, hc⟩ := this
 exact absurd (lt_of_blk hc) (Nat.lt_irrefl _)
theorem equal50_c {p p' : Option Addr} {c c' : Nat} {ys ys' : List Int} (h : BytesAt w p ys) (h' : BytesAt w p' ys') (hl : ys.length ≤ 140737488355328) :
  callV Tryz.prog 52 [.slice p ys.length c, .slice p' ys'.length c'] w fun v w' => v = .bool (decide (ys = ys')) ∧ Fm none' w w' := by
 refine vc52 p ys.length c p' ys'.length c' w _ ?_
 refine br_ndec (fun hn => ?_) (fun hn => ?_)
 ·refine ⟨?_, Fm.refl _ _⟩
  rw [decide_eq_false]
  rintro rfl; exact hn rfl
 refine ⟨fun u w' => ∃ j : Nat, j ≤ ys.length ∧ u 13 = .int .i64 j ∧ ys.take j = ys'.take j ∧ Fm none' w w', fun u _ => ys.length - (intOf (u 13)).toNat, ⟨0, by omega, rfl, rfl, Fm.refl _ _⟩, ?_⟩
 rintro u w3 ⟨j, hj, h13, ht, hF⟩
 change u 13 = .int .i64 j at h13
 simp only [h13, vq, eqV, nilV]
 have hll : ys.length = ys'.length := by omega
 refine br_dec (fun hjn => ?_) (fun hjn => ?_)
 ·obtain ⟨y, hy⟩ : ∃ y, ys[j]? = some y := ⟨ys[j]'(by omega), by simp⟩
  obtain ⟨y', hy'⟩ : ∃ y', ys'[j]? = some y' := ⟨ys'[j]'(by omega), by simp⟩
  obtain ⟨ad, rfl, hc⟩ := h j y hy
  obtain ⟨ad', rfl, hc'⟩ := h' j y' hy'
  have hFd : Fm none' w w3.drew := hF.trans (Fm.drew w3)
  simp only [vq, eqV, nilV]
  refine ⟨by omega, rd_of (hFd.cell hc id) ?_⟩
  simp only [vq, eqV, nilV]
  refine ⟨by omega, rd_of (hFd.cell hc' id) ?_⟩
  simp only [vq, eqV, nilV]
  refine br_ndec (fun he => ?_) (fun he => ?_)
  ·refine ⟨?_, hFd⟩
   rw [decide_eq_false]
   rintro rfl
   rw [hy] at hy'; cases hy'; exact he rfl
  ·subst he
   rw [w64 (by omega)]
   refine ⟨⟨j + 1, by omega, rfl, ?_, hFd⟩, ?_⟩
   ·rw [List.take_add_one, List.take_add_one, hy, hy', ht]
   ·show ys.length - ((j : Int) + 1).toNat < ys.length - (j : Int).toNat; omega
 ·have : j = ys.length := by omega
  subst this
  rw [List.take_length, hll, List.take_length] at ht
  refine ⟨?_, hF⟩
  rw [decide_eq_true ht]
def restOk (rem : List Int) : Bool := (rem.all fun b => decide (b = 0)) && decide (rem.length < 8)
theorem rest32_c {R : Nat} {rem : List Int} {g : Option Nat} (h : BrAt w base R rem g) : callV Tryz.prog 76 [.pointer (some ⟨R, 0, none⟩)] w fun v w' => v = .bool (restOk rem) ∧ Fm none' w w' := by
 have hbr := h
 obtain ⟨v, Y, n, h1, h2, h3, h4, h5, h5', h6, h7⟩ := h
 obtain ⟨p, cp, rfl, -⟩ := own_read h2
 have hrl : rem.length = 8 * Y.length - n := by rw [h5', List.length_drop, byteBits_length]
 refine vc76 ⟨R, 0, none⟩ w _ ?_
 simp only [addr_add, Nat.zero_add]
 refine rd_of (v := .int .i64 n) (cellOf h1 rfl) ?_
 simp only [vq, eqV, nilV]
 refine ⟨fun u w' => ∃ j : Nat, j ≤ rem.length ∧ u 3 = .int .i64 ((n + j : Nat) : Int) ∧ (∀ b ∈ rem.take j, b = 0) ∧ w' = w, fun u _ => 8 * Y.length - (intOf (u 3)).toNat, ⟨0, by omega, rfl, by simp, rfl⟩, ?_⟩
 rintro u w5 ⟨j, hj, h3', hz, rfl⟩
 change u 3 = .int .i64 ((n + j : Nat) : Int) at h3'
 simp only [h3', vq, eqV, nilV]
 refine rd_of (v := .slice p Y.length cp) (cellOf h1 rfl) ?_
 simp only [vq, eqV, nilV]
 rw [w64 (n := (Y.length : Int) * 8) (by omega)]
 refine br_dec (fun hjn => ?_) (fun hjn => ?_)
 ·obtain ⟨b, hb⟩ : ∃ b, rem[j]? = some b := ⟨rem[j]'(by omega), by simp⟩
  have hb' : (byteBits Y)[n + j]? = some b := by rw [h5', List.getElem?_drop] at hb; exact hb
  refine (bit52_c h1 h2 h6 h7 hb').mono ?_
  rintro _ w14 ⟨rfl, rfl⟩
  simp only [vq, eqV, nilV]
  refine br_ndec (fun he => ?_) (fun he => ?_)
  ·refine ⟨?_, Fm.refl _ _⟩
   have : (rem.all fun b => decide (b = 0)) = false := by
    rw [List.all_eq_false]
    exact ⟨b, List.mem_of_getElem? hb, by simp [he]⟩
   unfold restOk; rw [this]; rfl
  ·rw [w64 (by omega)]
   refine ⟨⟨j + 1, by omega, ?_, ?_, rfl⟩, ?_⟩
   ·show Value.int .i64 _ = _
    congr 1
   ·rw [List.take_add_one, hb]
    intro x hx
    rcases List.mem_append.1 hx with hx | hx
    ·exact hz x hx
    ·simp at hx; omega
   ·show 8 * Y.length - (((n + j : Nat) : Int) + 1).toNat < 8 * Y.length - ((n + j : Nat) : Int).toNat; omega
 ·have : j = rem.length := by omega
  subst this
  rw [List.take_length] at hz
  refine (left53_c hbr).mono ?_
  rintro _ w18 ⟨rfl, rfl⟩
  simp only [vq, eqV, nilV]
  refine ⟨?_, Fm.drew _⟩
  have : (rem.all fun b => decide (b = 0)) = true := by
   rw [List.all_eq_true]
   exact fun x hx => by simp [hz x hx]
  unfold restOk
  rw [this, Bool.true_and]
  congr 1
  rw [decide_eq_decide]; omega
def sameP (a b : Msg) : Prop := a.kind = b.kind ∧ a.seq = b.seq ∧ a.cq = b.cq ∧ a.cb = b.cb ∧ a.cdx = b.cdx ∧ a.cdy = b.cdy ∧ a.ct = b.ct ∧ a.prov = b.prov ∧ a.id = b.id ∧ a.shot = b.shot ∧ a.d0 = b.d0 ∧ a.d1 = b.d1 ∧ a.d2 = b.d2 ∧ a.why = b.why ∧ a.p0 = b.p0 ∧ a.p1 = b.p1 ∧ a.p2 = b.p2 ∧ a.v0 = b.v0 ∧ a.v1 = b.v1 ∧ a.v2 = b.v2 ∧ a.tick = b.tick ∧ a.bse = b.bse ∧ a.bytes = b.bytes
instance (a b : Msg) : Decidable (sameP a b) := by unfold sameP; infer_instance
theorem sameP_iff (a b : Msg) : sameP a b ↔ a = b := by
 cases a; cases b; simp [sameP]
instance : DecidableEq Msg := fun a b => decidable_of_iff (sameP a b) (sameP_iff a b)
end Go.Proofs.YtipikchkbmgloaaGreatDoor
namespace Go.Proofs.YtipikchkbmgloaaGreatDoor
set_option linter.unusedSimpArgs false
set_option linter.unusedVariables false
open Go Go.RowKit VC
theorem eq5 {a0 a1 a2 a3 a4 b0 b1 b2 b3 b4 : Int} : eqL [0, 1, 2, 3, 4] [.int .u16 a0, .int .u8 a1, .int .i8 a2, .int .i8 a3, .int .i64 a4] [.int .u16 b0, .int .u8 b1, .int .i8 b2, .int .i8 b3, .int .i64 b4] = some (decide (a0 = b0) && (decide (a1 = b1) && (decide (a2 = b2) && (decide (a3 = b3) && (decide (a4 = b4) && true))))) := rfl
theorem eq3 {a0 a1 a2 b0 b1 b2 : Int} : eqL [0, 1, 2] [.int .i64 a0, .int .i64 a1, .int .i64 a2] [.int .i64 b0, .int .i64 b1, .int .i64 b2] = some (decide (a0 = b0) && (decide (a1 = b1) && (decide (a2 = b2) && true))) := rfl
theorem br_ndec' {t : Bool} {X Y : Prop} (h0 : t = false → X) (h1 : t = true → Y) : br (!t) X Y := by cases t; exact h0 rfl; exact h1 rfl
theorem br_b {t : Bool} {X Y : Prop} (h1 : t = true → X) (h0 : t = false → Y) : br t X Y := by cases t; exact h0 rfl; exact h1 rfl
variable {w : World}
set_option maxRecDepth 20000 in
set_option maxHeartbeats 2000000 in
theorem same26_c {a b : Msg} {p q : Option Addr} {cp cq : Nat} (ha : BytesAt w p a.bytes) (hb : BytesAt w q b.bytes) (hl : a.bytes.length ≤ 140737488355328) :
  callV Tryz.prog 23 [.agg (msgC a p cp).toArray, .agg (msgC b q cq).toArray] w fun v w' => v = .bool (decide (a = b)) ∧ Fm none' w w' := by
 unfold msgC
 apply vc23
 refine allocC_of fun w1 hb1 hs1 hf1 => allocC_of fun w3 hb3 hs3 hf3 => ?_
 rw [hs1] at hb3 ⊢
 have hF : Fm none' w w3 := hf1.trans hf3
 have h0 := hf3.keep hb1 id
 have no : a ≠ b → Value.bool false = Value.bool (decide (a = b)) ∧ Fm none' w w3 := fun h => ⟨by rw [decide_eq_false h], hF⟩
 have tl : ∀ {l : List Value} {n i : Nat} {X : Prop}, rd (some l) (fun _ => X) = X := rfl
 refine rd_of (v := .int .i64 a.kind) (cellOf h0 rfl) ?_
 simp only [vq, eqV, nilV]
 refine rd_of (v := .int .i64 b.kind) (cellOf hb3 rfl) ?_
 simp only [vq, eqV, nilV]
 refine br_dec (fun e0 => ?_) (fun e => no fun h => e (by rw [h]))
 refine rd_of (v := .int .u16 a.seq) (cellOf h0 rfl) ?_
 simp only [vq, eqV, nilV]
 refine rd_of (v := .int .u16 b.seq) (cellOf hb3 rfl) ?_
 simp only [vq, eqV, nilV]
 refine br_dec (fun e1 => ?_) (fun e => no fun h => e (by rw [h]))
 refine rd_of (v := ([.int .u16 a.cq, .int .u8 a.cb, .int .i8 a.cdx, .int .i8 a.cdy, .int .i64 a.ct] : List Value)) (cells_row h0 (by simp)) ?_
 refine rd_of (v := ([.int .u16 b.cq, .int .u8 b.cb, .int .i8 b.cdx, .int .i8 b.cdy, .int .i64 b.ct] : List Value)) (cells_row hb3 (by simp)) ?_
 rw [eq5]
 simp only [vq, eqV, nilV]
 refine br_b (fun e2 => ?_) (fun e => no fun h => by rw [h] at e; simp at e)
 simp only [Bool.and_eq_true, decide_eq_true_eq] at e2
 refine rd_of (v := .int .u16 a.prov) (cellOf h0 rfl) ?_
 simp only [vq, eqV, nilV]
 refine rd_of (v := .int .u16 b.prov) (cellOf hb3 rfl) ?_
 simp only [vq, eqV, nilV]
 refine br_dec (fun e3 => ?_) (fun e => no fun h => e (by rw [h]))
 refine rd_of (v := .int .i64 a.id) (cellOf h0 rfl) ?_
 simp only [vq, eqV, nilV]
 refine rd_of (v := .int .i64 b.id) (cellOf hb3 rfl) ?_
 simp only [vq, eqV, nilV]
 refine br_dec (fun e4 => ?_) (fun e => no fun h => e (by rw [h]))
 refine rd_of (v := .int .i64 a.shot) (cellOf h0 rfl) ?_
 simp only [vq, eqV, nilV]
 refine rd_of (v := .int .i64 b.shot) (cellOf hb3 rfl) ?_
 simp only [vq, eqV, nilV]
 refine br_dec (fun e5 => ?_) (fun e => no fun h => e (by rw [h]))
 refine rd_of (v := ([.int .i64 a.d0, .int .i64 a.d1, .int .i64 a.d2] : List Value)) (cells_row h0 (by simp)) ?_
 refine rd_of (v := ([.int .i64 b.d0, .int .i64 b.d1, .int .i64 b.d2] : List Value)) (cells_row hb3 (by simp)) ?_
 rw [eq3]
 simp only [vq, eqV, nilV]
 refine br_b (fun e6 => ?_) (fun e => no fun h => by rw [h] at e; simp at e)
 simp only [Bool.and_eq_true, decide_eq_true_eq] at e6
 refine rd_of (v := .int .i64 a.why) (cellOf h0 rfl) ?_
 simp only [vq, eqV, nilV]
 refine rd_of (v := .int .i64 b.why) (cellOf hb3 rfl) ?_
 simp only [vq, eqV, nilV]
 refine br_dec (fun e7 => ?_) (fun e => no fun h => e (by rw [h]))
 refine rd_of (v := ([.int .i64 a.p0, .int .i64 a.p1, .int .i64 a.p2] : List Value)) (cells_row h0 (by simp)) ?_
 refine rd_of (v := ([.int .i64 b.p0, .int .i64 b.p1, .int .i64 b.p2] : List Value)) (cells_row hb3 (by simp)) ?_
 rw [eq3]
 simp only [vq, eqV, nilV]
 refine br_b (fun e8 => ?_) (fun e => no fun h => by rw [h] at e; simp at e)
 simp only [Bool.and_eq_true, decide_eq_true_eq] at e8
 refine rd_of (v := ([.int .i64 a.v0, .int .i64 a.v1, .int .i64 a.v2] : List Value)) (cells_row h0 (by simp)) ?_
 refine rd_of (v := ([.int .i64 b.v0, .int .i64 b.v1, .int .i64 b.v2] : List Value)) (cells_row hb3 (by simp)) ?_
 rw [eq3]
 simp only [vq, eqV, nilV]
 refine br_b (fun e9 => ?_) (fun e => no fun h => by rw [h] at e; simp at e)
 simp only [Bool.and_eq_true, decide_eq_true_eq] at e9
 refine rd_of (v := .int .u32 a.tick) (cellOf h0 rfl) ?_
 simp only [vq, eqV, nilV]
 refine rd_of (v := .int .u32 b.tick) (cellOf hb3 rfl) ?_
 simp only [vq, eqV, nilV]
 refine br_dec (fun e10 => ?_) (fun e => no fun h => e (by rw [h]))
 refine rd_of (v := .int .u32 a.bse) (cellOf h0 rfl) ?_
 simp only [vq, eqV, nilV]
 refine rd_of (v := .int .u32 b.bse) (cellOf hb3 rfl) ?_
 simp only [vq, eqV, nilV]
 refine br_dec (fun e11 => ?_) (fun e => no fun h => e (by rw [h]))
 refine rd_of (v := .slice p a.bytes.length cp) (cellOf h0 rfl) ?_
 simp only [vq, eqV, nilV]
 refine rd_of (v := .slice q b.bytes.length cq) (cellOf hb3 rfl) ?_
 simp only [vq, eqV, nilV]
 refine (equal50_c (ha.keep hF fun _ _ => id) (hb.keep hF fun _ _ => id) hl).mono ?_
 rintro _ w61 ⟨rfl, hf⟩
 refine ⟨?_, hF.trans hf⟩
 congr 1
 rw [decide_eq_decide]
 constructor
 ·intro h
  rw [← sameP_iff]
  unfold sameP
  refine ⟨e0, e1, e2.1, e2.2.1, e2.2.2.1, e2.2.2.2.1, e2.2.2.2.2.1, e3, e4, e5, e6.1, e6.2.1, e6.2.2.1, e7, e8.1, e8.2.1, e8.2.2.1, e9.1, e9.2.1, e9.2.2.1, e10, e11, h⟩
 ·intro h; rw [h]
end Go.Proofs.YtipikchkbmgloaaGreatDoor
namespace Go.Proofs.YtipikchkbmgloaaGreatDoor
set_option linter.unusedSimpArgs false
set_option linter.unusedVariables false
open Go Go.RowKit VC
def rightM (m : Msg) : Bool := known m && !fieldBad m && decide (m = (rdFields m.kind ⟨byteBits (pack (fieldBits m)), 0⟩).1)
theorem fieldBits_len (m : Msg) : (fieldBits m).length ≤ 8 * m.bytes.length + 300 := by
 have hv : ∀ (l : List Int) (k : Nat), (vecB l k).length = l.length * k := by
  intro l k
  induction l with
  | nil => simp [vecB]
  | cons y l ih => simp only [vecB, List.flatMap_cons, List.length_append] at ih ⊢; rw [ih]; simp only [vecBits, bitsOf_length, List.length_cons, Nat.succ_mul]; omega
 unfold fieldBits
 repeat' split
 all_goals simp only [cmdBits, numBits, sgnBits, bitsOf_length, List.length_append, hv, byteBits_length, List.length_cons, List.length_nil]
 all_goals omega
variable {w : World}
set_option maxRecDepth 20000 in
set_option maxHeartbeats 2000000 in
theorem right16_c {m : Msg} {p : Option Addr} {cp : Nat} (hm : Mok m) (hy : BytesAt w p m.bytes) (hp : ∀ ad, p = some ad → m.bytes ≠ [] → ad.block < w.heap.size) (hl : m.bytes.length ≤ 140737488351232) :
  callV Tryz.prog 9 [.agg (msgC m p cp).toArray] w fun v w' => v = .bool (rightM m) ∧ Fm none' w w' := by
 show callV Tryz.prog 9 [.agg (msgC m p cp).toArray] w _
 have hmc : ∀ K : List Value → Prop, K (msgC m p cp) → K (msgC m p cp) := fun _ h => h
 unfold msgC
 apply vc9
 refine allocC_of fun w1 hb1 hs1 hf1 => ?_
 change w1.heap[w.heap.size]? = some (.cells (msgC m p cp).toArray 41 (0, 0)) at hb1
 refine rd_of (v := msgC m p cp) (cells_all hb1 rfl) ?_
 refine allocC_of fun w4 hb4 hs4 hf4 => ?_
 rw [hs1] at hb4 hs4 ⊢
 refine rd_of (v := ()) rfl ?_
 refine stC_all hb4 rfl (by intro v hv; simp only [msgC, List.mem_cons, List.not_mem_nil, or_false] at hv; rcases hv with rfl | rfl | rfl | rfl | rfl | rfl | rfl | rfl | rfl | rfl | rfl | rfl | rfl | rfl | rfl | rfl | rfl | rfl | rfl | rfl | rfl | rfl | rfl <;> rfl) fun w5 hb5 hf5 => ?_
 have hs5 : w5.heap.size ≥ w.heap.size + 2 := by have := hf5.size; omega
 refine allocC_of fun w7 hb7 hs7 hf7 => ?_
 obtain ⟨A, hA⟩ : ∃ A, A = w5.heap.size := ⟨_, rfl⟩
 rw [← hA] at hb7 ⊢
 have hF7 : Fm none' w w7 := ((hf1.trans hf4).trans' hf5 (by rintro i hi rfl; omega)).trans hf7
 have hB7 := hf7.keep hb5 id
 have hw7 : WrAt w7 w.heap.size A 84 (.bool false) [] none := ⟨.slice none 0 0, hb7, ⟨rfl, .inl ⟨rfl, rfl⟩⟩, rfl, by simp, hF7.size⟩
 refine (fields22_c (m := m) (p := p) (cp := cp) (B := w.heap.size + 1) hw7 hB7 hm (by omega) (by simp) (fun j y hj => ?_) (fun ad e hne => by have := hp ad e hne; have := hF7.size; omega) (by simp; omega)).mono ?_
 ·obtain ⟨ad, e, hc⟩ := hy j y hj
  exact ⟨ad, e, by have := hp ad e (ne_of hj); omega, by simp, hF7.cell hc id⟩
 rintro _ w9 ⟨rfl, _, g9, hw9, hg9, hf9⟩
 simp only [vq, eqV, nilV]
 have hF9 : Fm none' w w9 := hF7.trans' hf9 (by rintro i hi (e | e); omega; cases e)
 refine br_ndec' (fun hk => ?_) (fun hk => ?_)
 ·refine ⟨?_, hF9⟩
  unfold rightM; rw [hk]; rfl
 simp only [List.nil_append, Bool.false_or] at hw9
 obtain ⟨v9, h91, h92, h93, h94, h95⟩ := id hw9
 refine rd_of (v := .bool (fieldBad m)) (cellOf h91 rfl) ?_
 simp only [vq, eqV, nilV]
 refine br_b (fun hbad => ?_) (fun hbad => ?_)
 ·refine ⟨?_, hF9⟩
  unfold rightM; rw [hk, hbad]; rfl
 have hfl := fieldBits_len m
 refine (bytes23_c hw9 (by omega)).mono ?_
 rintro v13 w14 ⟨hv13, hfr13, hf14⟩
 obtain ⟨p13, c13, rfl, -⟩ := own_read hv13
 simp only [vq, eqV, nilV]
 have hF14 := hF9.trans hf14
 refine (reader25_c (base := w.heap.size) (BytesAt.of_own hv13) (pack_range _) (by rw [pack_length]; omega) hF14.size).mono ?_
 rintro _ w19 ⟨R, gR, rfl, hR, hbr, hgR, hf19⟩
 simp only [vq, eqV, nilV]
 have hF19 := hF14.trans hf19
 refine allocC_of fun w22 hb22 hs22 hf22 => ?_
 have hF22 := hF19.trans hf22
 have hb1' : w22.heap[w.heap.size]? = some (.cells (msgC m p cp).toArray 41 (0, 0)) := by
  refine hf22.keep (hf19.keep (hf14.keep (hf9.keep (hf7.keep (hf5.keep (hf4.keep hb1 id) ?_) id) ?_) id) id) id
  ·omega
  ·rintro (e | e); omega; cases e
 refine rd_of (v := .int .i64 m.kind) (cellOf hb1' rfl) ?_
 simp only [vq, eqV, nilV]
 refine allocC_of fun w26 hb26 hs26 hf26 => ?_
 refine stC_all hb26 rfl (by intro v hv; simp only [List.mem_cons, List.not_mem_nil, or_false] at hv; rcases hv with rfl | rfl | rfl | rfl | rfl | rfl | rfl | rfl | rfl | rfl | rfl | rfl | rfl | rfl | rfl | rfl | rfl | rfl | rfl | rfl | rfl | rfl | rfl <;> rfl) fun w27 hb27 hf27 => ?_
 change w27.heap[w22.heap.size]? = some (.cells (msgC (blank m.kind) none 0).toArray 41 (0, 0)) at hb27
 have hF26 : Fm none' w19 w27 := (hf22.trans hf26).trans' hf27 (by rintro i hi rfl; omega)
 have hrl := hbr.lt
 have hrd : RdAt w27 w.heap.size w19.heap.size R ⟨byteBits (pack (fieldBits m)), 0⟩ gR := by
  refine ⟨hf27.keep (hf26.keep hb22 id) (by omega), by omega, fun e => by have := hrl.2 _ e; omega, hbr.keep hF26 id fun _ _ y => y⟩
 refine (rfields22_c (k := m.kind) hrd hb27 (by omega) (by omega) (fun e => by have := hrl.2 _ e; omega) (by have := hF19.size; have := hF26.size; omega)).mono ?_
 rintro _ w29 ⟨rfl, p29, c29, hrd29, hb29, hf29, hown29, hfr29⟩
 simp only [vq, eqV, nilV]
 have hR9 := hF9.size
 have hR14 := hf14.size
 have hb1'' : w29.heap[w.heap.size]? = some (.cells (msgC m p cp).toArray 41 (0, 0)) := by
  refine hf29.keep (hf27.keep (hf26.keep hb1' id) ?_) ?_
  ·have := hF19.size; omega
  ·have := hF19.size; have := lt_of_blk hb1; have h9 := lt_of_blk h91; rintro (e | e | e) <;> omega
 refine rd_of (v := msgC m p cp) (cells_all hb1'' rfl) ?_
 refine rd_of (v := msgC _ p29 c29) (cells_all hb29 rfl) ?_
 have hF29 : Fm none' w w29 := (hF19.trans hF26).trans' hf29 (by have := hF19.size; have h9 := lt_of_blk h91; rintro i hi (e | e | e) <;> omega)
 refine (same26_c (hy.keep hF29 fun _ _ => id) (BytesAt.of_own hown29) (by omega)).mono ?_
 rintro _ w34 ⟨rfl, hf34⟩
 simp only [vq, eqV, nilV]
 refine ⟨?_, hF29.trans hf34⟩
 unfold rightM; rw [hk, hbad]; rfl
end Go.Proofs.YtipikchkbmgloaaGreatDoor
namespace Go.Proofs.YtipikchkbmgloaaGreatDoor
set_option linter.unusedSimpArgs false
set_option linter.unusedVariables false
open Go Go.RowKit VC
theorem BytesAt.keepN {w w' : World} {p : Option Addr} {ys : List Int} {S : Nat → Prop} (h : BytesAt w p ys) (f : Fm S w w') (hp : ∀ ad, p = some ad → ys ≠ [] → ¬ S ad.block) : BytesAt w' p ys := fun j y hj => by
 obtain ⟨ad, e, hc⟩ := h j y hj
 exact ⟨ad, e, f.cell hc (by rw [add_block]; exact hp ad e (ne_of hj))⟩
def MsgsAt (w : World) (N : Nat) (p : Option Addr) (ms : List Msg) : Prop :=
 ∀ j m, ms[j]? = some m → ∃ ad q cq, p = some ad ∧ ad.block < N ∧ cellsAt w (ad.add (j * 23)) 23 = some (msgC m q cq) ∧ BytesAt w q m.bytes ∧ (∀ ad', q = some ad' → m.bytes ≠ [] → ad'.block < N)
theorem MsgsAt.keep {w w' : World} {N : Nat} {p : Option Addr} {ms : List Msg} {S : Nat → Prop} (h : MsgsAt w N p ms) (f : Fm S w w') (hS : ∀ i, i < N → ¬ S i) : MsgsAt w' N p ms := fun j m hj => by
 obtain ⟨ad, q, cq, e, hb, hc, hq, hqb⟩ := h j m hj
 exact ⟨ad, q, cq, e, hb, f.cells (by rw [add_block]; exact hS _ hb) hc, hq.keepN f fun ad' e' hne => hS _ (hqb ad' e' hne), hqb⟩
theorem MsgsAt.up {w : World} {N N' : Nat} {p : Option Addr} {ms : List Msg} (h : MsgsAt w N p ms) (hN : N ≤ N') : MsgsAt w N' p ms := fun j m hj => by
 obtain ⟨ad, q, cq, e, hb, hc, hq, hqb⟩ := h j m hj
 exact ⟨ad, q, cq, e, by omega, hc, hq, fun ad' e' hne => by have := hqb ad' e' hne; omega⟩
theorem msgC_one {m : Msg} {q : Option Addr} {cq : Nat} : ∀ v ∈ msgC m q cq, v.oneCell' = true := by
 intro v hv
 simp only [msgC, List.mem_cons, List.not_mem_nil, or_false] at hv
 rcases hv with rfl | rfl | rfl | rfl | rfl | rfl | rfl | rfl | rfl | rfl | rfl | rfl | rfl | rfl | rfl | rfl | rfl | rfl | rfl | rfl | rfl | rfl | rfl <;> rfl
def oneBits (m : Msg) : List Int := bitsOf (IntKind.u64.wrap m.kind) 4 ++ fieldBits m
def encBits (ms : List Msg) : List Int := bitsOf (IntKind.u64.wrap ms.length) 5 ++ ms.flatMap oneBits
def encodeM (ms : List Msg) : List Int × Int := if ms.all rightM then (if 16 < ms.length ∨ 1024 < (pack (encBits ms)).length then ([], 5) else (pack (encBits ms), 0)) else ([], 1)
structure Msok (ms : List Msg) : Prop where
 ok : ∀ m ∈ ms, Mok m
 len : ∀ m ∈ ms, m.bytes.length ≤ 2000
 many : ms.length ≤ 1000
theorem oneBits_sum {ms : List Msg} (h : ∀ m ∈ ms, m.bytes.length ≤ 2000) : (ms.flatMap oneBits).length ≤ ms.length * 16304 := by
 induction ms with
 | nil => simp
 | cons m ms ih =>
  have h1 := ih fun x hx => h x (List.mem_cons_of_mem _ hx)
  have h2 := h m (by simp)
  have h3 := fieldBits_len m
  rw [List.flatMap_cons, List.length_append, List.length_cons, Nat.succ_mul]
  unfold oneBits at h1 ⊢
  rw [List.length_append, bitsOf_length]
  omega
variable {w : World}
set_option maxRecDepth 20000 in
set_option maxHeartbeats 2000000 in
theorem encode14_c {ms : List Msg} {p : Option Addr} {c N : Nat} (hm : MsgsAt w N p ms) (hN : N ≤ w.heap.size) (hok : Msok ms) :
  callV Tryz.prog 53 [.slice p ms.length c] w fun v w' => ∃ sv, v = .tuple #[sv, .int .i64 (encodeM ms).2] ∧ w'.ownsRow w.heap.size 5 1 sv (encodeM ms).1.length ((encodeM ms).1.map (Value.int .u8)) ∧ Fm none' w w' := by
 obtain ⟨hok1, hok2, hok3⟩ := hok
 have hsum : ∀ j, (encBits ms).length ≤ 20000000 ∧ (bitsOf (IntKind.u64.wrap (ms.length : Int)) 5 ++ (ms.take j).flatMap oneBits).length ≤ 20000000 := by
  intro j
  have h1 := oneBits_sum hok2
  have h2 := oneBits_sum (ms := ms.take j) fun m hm => hok2 m (List.mem_of_mem_take hm)
  have h3 : (ms.take j).length ≤ ms.length := by rw [List.length_take]; omega
  unfold encBits
  rw [List.length_append, List.length_append, bitsOf_length]
  have h4 : ms.length * 16304 ≤ 1000 * 16304 := Nat.mul_le_mul_right _ hok3
  have h5 : (ms.take j).length * 16304 ≤ 1000 * 16304 := Nat.mul_le_mul_right _ (by omega)
  omega
 refine vc53 p ms.length c w _ ?_
 refine allocC_of fun w1 hb1 hs1 hf1 => ?_
 obtain ⟨A, hA⟩ : ∃ A, A = w.heap.size := ⟨_, rfl⟩
 rw [← hA] at hb1 ⊢
 have hw1 : WrAt w1 w.heap.size A 84 (.bool false) [] none := ⟨.slice none 0 0, hb1, ⟨rfl, .inl ⟨rfl, rfl⟩⟩, rfl, by simp, hf1.size⟩
 refine (put21_c _ 5 (by omega) hw1 (by simp)).mono ?_
 rintro _ w3 ⟨rfl, g3, hw3, hg3, hf3⟩
 have hF3 : Fm none' w w3 := hf1.trans' hf3 (by rintro i hi (e | e); omega; cases e)
 have hnil : ∀ (e : Int) (w' : World), Fm none' w w' → ∃ sv, Value.tuple #[.slice none 0 0, .int .i64 e] = .tuple #[sv, .int .i64 e] ∧ w'.ownsRow w.heap.size 5 1 sv ([] : List Int).length (([] : List Int).map (Value.int .u8)) ∧ Fm none' w w' :=
  fun e w' hf => ⟨_, rfl, ⟨rfl, .inl ⟨rfl, rfl⟩⟩, hf⟩
 have hfr : ∀ (g' : Option Nat), (g' = none ∨ ∃ b, g' = some b ∧ w1.heap.size ≤ b) → ∀ i, g' = some i → w.heap.size < i := by
  rintro g' (e | ⟨b, e, hb⟩) i hi
  ·rw [e] at hi; cases hi
  ·rw [e] at hi; cases hi; omega
 refine ⟨fun u w' => ∃ (j : Nat) (g' : Option Nat), j ≤ ms.length ∧ u 19 = .int .i64 j ∧ (∀ m ∈ ms.take j, rightM m = true) ∧ WrAt w' w.heap.size A 84 (.bool false) (bitsOf (IntKind.u64.wrap (ms.length : Int)) 5 ++ (ms.take j).flatMap oneBits) g' ∧ (∀ i, g' = some i → w.heap.size < i) ∧ Fm none' w w',
  fun u _ => ms.length - (intOf (u 19)).toNat, ?_, ?_⟩
 ·refine ⟨0, g3, by omega, rfl, by simp, ?_, hfr g3 hg3, hF3⟩
  simp only [List.take_zero, List.flatMap_nil, List.append_nil]
  exact hw3
 rintro u w7 ⟨j, g', hj, h19, hright, hw7, hg', hF⟩
 change u 19 = .int .i64 j at h19
 simp only [h19, vq, eqV, nilV]
 have hl7 := hw7.lt
 refine br_dec (fun hjn => ?_) (fun hjn => ?_)
 ·obtain ⟨m, hmj⟩ : ∃ m, ms[j]? = some m := ⟨ms[j]'(by omega), by simp⟩
  have hmem : m ∈ ms := List.mem_of_getElem? hmj
  obtain ⟨ad, q, cq, rfl, hadN, hcells, hq, hqN⟩ := (hm.keep hF fun _ _ => id) j m hmj
  simp only [vq, eqV, nilV]
  refine ⟨by omega, rd_of hcells ?_⟩
  refine allocC_of fun w16 hb16 hs16 hf16 => ?_
  refine rd_of (v := ()) rfl ?_
  refine stC_all hb16 rfl msgC_one fun w17 hb17 hf17 => ?_
  obtain ⟨B, hB⟩ : ∃ B, B = w7.heap.size := ⟨_, rfl⟩
  rw [← hB] at hb17 hf17 ⊢
  have hF17 : Fm none' w7 w17 := hf16.trans' hf17 (by rintro i hi rfl; omega)
  refine rd_of (v := msgC m q cq) (cells_all hb17 rfl) ?_
  have hFw17 : Fm none' w w17 := hF.trans hF17
  have hBw : w.heap.size ≤ B := by rw [hB]; exact hF.size
  refine (right16_c (hok1 m hmem) (hq.keep hF17 fun _ _ => id) (fun ad' e hne => by have := hqN ad' e hne; have := hFw17.size; omega) (by have := hok2 m hmem; omega)).mono ?_
  rintro _ w20 ⟨rfl, hf20⟩
  simp only [vq, eqV, nilV]
  have hF20 : Fm none' w w20 := hFw17.trans hf20
  refine br_ndec' (fun hr => ?_) (fun hr => ?_)
  ·have : encodeM ms = ([], 1) := by
    unfold encodeM
    rw [if_neg]
    intro h
    rw [List.all_eq_true] at h
    rw [h m hmem] at hr; cases hr
   rw [this, hA]
   exact hnil 1 w20 hF20
  ·have hb20 : w20.drew.heap[B]? = some (.cells (msgC m q cq).toArray 41 (0, 0)) := hf20.keep hb17 id
   have hw20 : WrAt w20.drew w.heap.size A 84 (.bool false) (bitsOf (IntKind.u64.wrap (ms.length : Int)) 5 ++ (ms.take j).flatMap oneBits) g' := hw7.keep ((hF17.trans hf20).trans (Fm.drew w20)) id fun _ _ y => y
   have hBA : B ≠ A := by omega
   have hBg : g' ≠ some B := fun e => by have := hl7.2 _ e; omega
   refine ⟨fun w' => w'.heap[B]? = some (.cells (msgC m q cq).toArray 41 (0, 0)), hb20, ?_⟩
   simp only [vq, eqV, nilV]
   refine rd_of (v := .int .i64 m.kind) (cellOf hb20 rfl) ⟨fun w' hw => rd_of (cellOf hw rfl) rfl, ?_⟩
   simp only [vq, eqV, nilV]
   have hlen1 := (hsum j).2
   refine (put21_c _ 4 (by omega) hw20 (by omega)).mono ?_
   rintro _ w39 ⟨rfl, g39, hw39, hg39, hf39⟩
   have hb39 := hf39.keep hb20 (by rintro (e | e); exact hBA e; exact hBg e)
   have hs20 : w7.heap.size ≤ w20.heap.size := (hF17.trans hf20).size
   have hB20 := lt_of_blk hb20
   have hBg39 : g39 ≠ some B := apart_of hB20 hBg hg39
   have hg39w : ∀ i, g39 = some i → w.heap.size < i := by
    rcases hg39 with e | ⟨b, e, hb⟩
    ·rw [e]; exact hg'
    ·intro i hi
     rw [e] at hi; cases hi
     have : w20.drew.heap.size = w20.heap.size := rfl
     omega
   have hF39 : Fm none' w w39 := (hF20.trans (Fm.drew w20)).trans' hf39 (by rintro i hi (e | e); omega; have := hg' _ e; omega)
   refine (fields22_c (m := m) (p := q) (cp := cq) hw39 hb39 (hok1 m hmem) hBA hBg39 (fun i y hi => ?_) (fun ad' e hne => by have := hqN ad' e hne; have := hF39.size; omega) (by rw [List.length_append, bitsOf_length]; have := hok2 m hmem; omega)).mono ?_
   ·obtain ⟨ad', e, hc⟩ := (hq.keep (hF17.trans hf20) fun _ _ => id) i y hi
    have hb := hqN ad' e (ne_of hi)
    refine ⟨ad', e, by omega, fun e' => by have := hg39w _ e'; omega, ?_⟩
    exact hf39.cell (w := w20.drew) hc (by rw [add_block]; rintro (e' | e'); omega; have := hg' _ e'; omega)
   rintro _ w41 ⟨rfl, _, g41, hw41, hg41, hf41⟩
   simp only [vq, eqV, nilV]
   rw [w64 (by omega)]
   have hbad : fieldBad m = false := by
    unfold rightM at hr
    simp only [Bool.and_eq_true, Bool.not_eq_true'] at hr
    exact hr.1.2
   rw [hbad] at hw41
   refine ⟨⟨j + 1, g41, by omega, rfl, ?_, ?_, ?_, ?_⟩, ?_⟩
   ·rw [List.take_add_one, hmj]
    intro x hx
    rcases List.mem_append.1 hx with hx | hx
    ·exact hright x hx
    ·simp at hx; subst hx; exact hr
   ·rw [List.take_add_one, hmj, Option.toList_some, List.flatMap_append, List.flatMap_cons, List.flatMap_nil, List.append_nil]
    unfold oneBits at hw41 ⊢
    simp only [List.append_assoc] at hw41 ⊢
    exact hw41
   ·rcases hg41 with e | ⟨b, e, hb⟩
    ·rw [e]; exact hg39w
    ·intro i hi
     rw [e] at hi; cases hi
     have := hF39.size; have := lt_of_blk hb39; omega
   ·exact hF39.trans' hf41 (by rintro i hi (e | e); omega; have := hg39w _ e; omega)
   ·show ms.length - ((j : Int) + 1).toNat < ms.length - (j : Int).toNat; omega
 ·have : j = ms.length := by omega
  subst this
  rw [List.take_length] at hw7 hright
  have hall : ms.all rightM = true := List.all_eq_true.2 hright
  refine (bytes23_c hw7 (by have := (hsum 0).1; unfold encBits at this; omega)).mono ?_
  rintro v w46 ⟨hv, -, hf46⟩
  obtain ⟨p46, c46, rfl, -⟩ := own_read hv
  simp only [vq, eqV, nilV]
  have hF46 := hF.trans hf46
  refine br_dec (fun h16 => ?_) (fun h16 => ?_)
  ·have : encodeM ms = ([], 5) := by
    unfold encodeM
    rw [if_pos hall, if_pos (.inl (by omega))]
   rw [this, hA]
   exact hnil 5 w46 hF46
  ·refine br_dec (fun h10 => ?_) (fun h10 => ?_)
   ·have : encodeM ms = ([], 5) := by
     unfold encodeM
     rw [if_pos hall, if_pos (.inr (by unfold encBits; omega))]
    rw [this, hA]
    exact hnil 5 w46 hF46
   ·have : encodeM ms = (pack (encBits ms), 0) := by
     unfold encodeM
     rw [if_pos hall, if_neg]
     unfold encBits
     omega
    rw [this, hA]
    exact ⟨_, rfl, hv, hF46⟩
end Go.Proofs.YtipikchkbmgloaaGreatDoor
