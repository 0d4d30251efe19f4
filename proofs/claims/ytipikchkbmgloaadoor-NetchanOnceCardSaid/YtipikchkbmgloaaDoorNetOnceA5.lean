/- What NetOnce needs, part 5 of 12: Same2 Right Enc Dec C5 C6.  Conditions: as each part says. -/
import Derived.Test.YtipikchkbmgloaaDoorNetOnceA4
namespace Go.Proofs.YtipikchkbmgloaaDoor
set_option linter.unusedSimpArgs false
set_option linter.unusedVariables false
open Go Go.RowKit VC
theorem eq5 {a0 a1 a2 a3 a4 b0 b1 b2 b3 b4 : Int} : eqL [0, 1, 2, 3, 4] [.int .u16 a0, .int .u8 a1, .int .i8 a2, .int .i8 a3, .int .i64 a4] [.int .u16 b0, .int .u8 b1, .int .i8 b2, .int .i8 b3, .int .i64 b4] = some (decide (a0 = b0) && (decide (a1 = b1) && (decide (a2 = b2) && (decide (a3 = b3) && (decide (a4 = b4) && true))))) := rfl
theorem eq3 {a0 a1 a2 b0 b1 b2 : Int} : eqL [0, 1, 2] [.int .i64 a0, .int .i64 a1, .int .i64 a2] [.int .i64 b0, .int .i64 b1, .int .i64 b2] = some (decide (a0 = b0) && (decide (a1 = b1) && (decide (a2 = b2) && true))) := rfl
theorem br_ndec' {t : Bool} {X Y : Prop} (h0 : t = false → X) (h1 : t = true → Y) : br (!t) X Y := by cases t; exact h0 rfl; exact h1 rfl
theorem br_b {t : Bool} {X Y : Prop} (h1 : t = true → X) (h0 : t = false → Y) : br t X Y := by cases t; exact h0 rfl; exact h1 rfl
variable {w : World}
set_option maxRecDepth 20000 in
set_option maxHeartbeats 2000000 in
theorem same26_c {a b : Msg} {p q : Option Addr} {cp cq : Nat} (ha : BytesAt w p a.bytes) (hb : BytesAt w q b.bytes) (hl : a.bytes.length ≤ 140737488355328) :
    callV Tryd.prog 36 [.agg (msgC a p cp).toArray, .agg (msgC b q cq).toArray] w fun v w' => v = .bool (decide (a = b)) ∧ Fm none' w w' := by
  unfold msgC
  apply vc36
  refine allocC_of fun w1 hb1 hs1 hf1 => allocC_of fun w3 hb3 hs3 hf3 => ?_
  rw [hs1] at hb3 ⊢
  have hF : Fm none' w w3 := hf1.trans hf3
  have h0 := hf3.keep hb1 id
  have no : a ≠ b → Value.bool false = Value.bool (decide (a = b)) ∧ Fm none' w w3 := fun h => ⟨by rw [decide_eq_false h], hF⟩
  have tl : ∀ {l : List Value} {n i : Nat} {X : Prop}, rd (some l) (fun _ => X) = X := rfl
  refine rd_of (v := .int .i64 a.kind) (cellOf h0 rfl) ?_
  simp only [vcs, eqV, nilV, Option.map_some, Nat.mul_one, implies_true, true_and, and_true, and_self]
  refine rd_of (v := .int .i64 b.kind) (cellOf hb3 rfl) ?_
  simp only [vcs, eqV, nilV, Option.map_some, Nat.mul_one, implies_true, true_and, and_true, and_self]
  refine br_dec (fun e0 => ?_) (fun e => no fun h => e (by rw [h]))
  refine rd_of (v := .int .u16 a.seq) (cellOf h0 rfl) ?_
  simp only [vcs, eqV, nilV, Option.map_some, Nat.mul_one, implies_true, true_and, and_true, and_self]
  refine rd_of (v := .int .u16 b.seq) (cellOf hb3 rfl) ?_
  simp only [vcs, eqV, nilV, Option.map_some, Nat.mul_one, implies_true, true_and, and_true, and_self]
  refine br_dec (fun e1 => ?_) (fun e => no fun h => e (by rw [h]))
  refine rd_of (v := ([.int .u16 a.cq, .int .u8 a.cb, .int .i8 a.cdx, .int .i8 a.cdy, .int .i64 a.ct] : List Value)) (cells_row h0 (by simp)) ?_
  refine rd_of (v := ([.int .u16 b.cq, .int .u8 b.cb, .int .i8 b.cdx, .int .i8 b.cdy, .int .i64 b.ct] : List Value)) (cells_row hb3 (by simp)) ?_
  rw [eq5]
  simp only [vcs, eqV, nilV, Option.map_some, Nat.mul_one, implies_true, true_and, and_true, and_self]
  refine br_b (fun e2 => ?_) (fun e => no fun h => by rw [h] at e; simp at e)
  simp only [Bool.and_eq_true, decide_eq_true_eq] at e2
  refine rd_of (v := .int .u16 a.prov) (cellOf h0 rfl) ?_
  simp only [vcs, eqV, nilV, Option.map_some, Nat.mul_one, implies_true, true_and, and_true, and_self]
  refine rd_of (v := .int .u16 b.prov) (cellOf hb3 rfl) ?_
  simp only [vcs, eqV, nilV, Option.map_some, Nat.mul_one, implies_true, true_and, and_true, and_self]
  refine br_dec (fun e3 => ?_) (fun e => no fun h => e (by rw [h]))
  refine rd_of (v := .int .i64 a.id) (cellOf h0 rfl) ?_
  simp only [vcs, eqV, nilV, Option.map_some, Nat.mul_one, implies_true, true_and, and_true, and_self]
  refine rd_of (v := .int .i64 b.id) (cellOf hb3 rfl) ?_
  simp only [vcs, eqV, nilV, Option.map_some, Nat.mul_one, implies_true, true_and, and_true, and_self]
  refine br_dec (fun e4 => ?_) (fun e => no fun h => e (by rw [h]))
  refine rd_of (v := .int .i64 a.shot) (cellOf h0 rfl) ?_
  simp only [vcs, eqV, nilV, Option.map_some, Nat.mul_one, implies_true, true_and, and_true, and_self]
  refine rd_of (v := .int .i64 b.shot) (cellOf hb3 rfl) ?_
  simp only [vcs, eqV, nilV, Option.map_some, Nat.mul_one, implies_true, true_and, and_true, and_self]
  refine br_dec (fun e5 => ?_) (fun e => no fun h => e (by rw [h]))
  refine rd_of (v := ([.int .i64 a.d0, .int .i64 a.d1, .int .i64 a.d2] : List Value)) (cells_row h0 (by simp)) ?_
  refine rd_of (v := ([.int .i64 b.d0, .int .i64 b.d1, .int .i64 b.d2] : List Value)) (cells_row hb3 (by simp)) ?_
  rw [eq3]
  simp only [vcs, eqV, nilV, Option.map_some, Nat.mul_one, implies_true, true_and, and_true, and_self]
  refine br_b (fun e6 => ?_) (fun e => no fun h => by rw [h] at e; simp at e)
  simp only [Bool.and_eq_true, decide_eq_true_eq] at e6
  refine rd_of (v := .int .i64 a.why) (cellOf h0 rfl) ?_
  simp only [vcs, eqV, nilV, Option.map_some, Nat.mul_one, implies_true, true_and, and_true, and_self]
  refine rd_of (v := .int .i64 b.why) (cellOf hb3 rfl) ?_
  simp only [vcs, eqV, nilV, Option.map_some, Nat.mul_one, implies_true, true_and, and_true, and_self]
  refine br_dec (fun e7 => ?_) (fun e => no fun h => e (by rw [h]))
  refine rd_of (v := ([.int .i64 a.p0, .int .i64 a.p1, .int .i64 a.p2] : List Value)) (cells_row h0 (by simp)) ?_
  refine rd_of (v := ([.int .i64 b.p0, .int .i64 b.p1, .int .i64 b.p2] : List Value)) (cells_row hb3 (by simp)) ?_
  rw [eq3]
  simp only [vcs, eqV, nilV, Option.map_some, Nat.mul_one, implies_true, true_and, and_true, and_self]
  refine br_b (fun e8 => ?_) (fun e => no fun h => by rw [h] at e; simp at e)
  simp only [Bool.and_eq_true, decide_eq_true_eq] at e8
  refine rd_of (v := ([.int .i64 a.v0, .int .i64 a.v1, .int .i64 a.v2] : List Value)) (cells_row h0 (by simp)) ?_
  refine rd_of (v := ([.int .i64 b.v0, .int .i64 b.v1, .int .i64 b.v2] : List Value)) (cells_row hb3 (by simp)) ?_
  rw [eq3]
  simp only [vcs, eqV, nilV, Option.map_some, Nat.mul_one, implies_true, true_and, and_true, and_self]
  refine br_b (fun e9 => ?_) (fun e => no fun h => by rw [h] at e; simp at e)
  simp only [Bool.and_eq_true, decide_eq_true_eq] at e9
  refine rd_of (v := .int .u32 a.tick) (cellOf h0 rfl) ?_
  simp only [vcs, eqV, nilV, Option.map_some, Nat.mul_one, implies_true, true_and, and_true, and_self]
  refine rd_of (v := .int .u32 b.tick) (cellOf hb3 rfl) ?_
  simp only [vcs, eqV, nilV, Option.map_some, Nat.mul_one, implies_true, true_and, and_true, and_self]
  refine br_dec (fun e10 => ?_) (fun e => no fun h => e (by rw [h]))
  refine rd_of (v := .int .u32 a.bse) (cellOf h0 rfl) ?_
  simp only [vcs, eqV, nilV, Option.map_some, Nat.mul_one, implies_true, true_and, and_true, and_self]
  refine rd_of (v := .int .u32 b.bse) (cellOf hb3 rfl) ?_
  simp only [vcs, eqV, nilV, Option.map_some, Nat.mul_one, implies_true, true_and, and_true, and_self]
  refine br_dec (fun e11 => ?_) (fun e => no fun h => e (by rw [h]))
  refine rd_of (v := .slice p a.bytes.length cp) (cellOf h0 rfl) ?_
  simp only [vcs, eqV, nilV, Option.map_some, Nat.mul_one, implies_true, true_and, and_true, and_self]
  refine rd_of (v := .slice q b.bytes.length cq) (cellOf hb3 rfl) ?_
  simp only [vcs, eqV, nilV, Option.map_some, Nat.mul_one, implies_true, true_and, and_true, and_self]
  refine (equal50_c (ha.keep hF fun _ _ => id) (hb.keep hF fun _ _ => id) hl).mono ?_
  rintro _ w61 ⟨rfl, hf⟩
  refine ⟨?_, hF.trans hf⟩
  congr 1
  rw [decide_eq_decide]
  constructor
  · intro h
    rw [← sameP_iff]
    unfold sameP
    refine ⟨e0, e1, e2.1, e2.2.1, e2.2.2.1, e2.2.2.2.1, e2.2.2.2.2.1, e3, e4, e5, e6.1, e6.2.1, e6.2.2.1, e7, e8.1, e8.2.1, e8.2.2.1, e9.1, e9.2.1, e9.2.2.1, e10, e11, h⟩
  · intro h; rw [h]
end Go.Proofs.YtipikchkbmgloaaDoor
namespace Go.Proofs.YtipikchkbmgloaaDoor
set_option linter.unusedSimpArgs false
set_option linter.unusedVariables false
open Go Go.RowKit VC
def rightM (m : Msg) : Bool := known m && !fieldBad m && decide (m = (rdFields m.kind ⟨byteBits (pack (fieldBits m)), 0⟩).1)
theorem fieldBits_len (m : Msg) : (fieldBits m).length ≤ 8 * m.bytes.length + 300 := by
  have hv : ∀ (l : List Int) (k : Nat), (vecB l k).length = l.length * k := by
    intro l k
    induction l with
    | nil => simp [vecB]
    | cons y l ih => simp only [vecB, List.flatMap_cons, List.length_append] at ih ⊢; rw [ih]; simp only [vecBits, bitsOf_length, List.length_cons, Nat.succ_mul]; omega
  unfold fieldBits
  repeat' split
  all_goals simp only [cmdBits, numBits, sgnBits, bitsOf_length, List.length_append, hv, byteBits_length, List.length_cons, List.length_nil]
  all_goals omega
theorem known_blank (m : Msg) : known (blank m.kind) = known m := rfl
variable {w : World}
set_option maxRecDepth 20000 in
set_option maxHeartbeats 2000000 in
theorem right16_c {m : Msg} {p : Option Addr} {cp : Nat} (hm : Mok m) (hy : BytesAt w p m.bytes) (hp : ∀ ad, p = some ad → m.bytes ≠ [] → ad.block < w.heap.size) (hl : m.bytes.length ≤ 140737488351232) :
    callV Tryd.prog 16 [.agg (msgC m p cp).toArray] w fun v w' => v = .bool (rightM m) ∧ Fm none' w w' := by
  show callV Tryd.prog 16 [.agg (msgC m p cp).toArray] w _
  have hmc : ∀ K : List Value → Prop, K (msgC m p cp) → K (msgC m p cp) := fun _ h => h
  unfold msgC
  apply vc16
  refine allocC_of fun w1 hb1 hs1 hf1 => ?_
  change w1.heap[w.heap.size]? = some (.cells (msgC m p cp).toArray 53 (0, 0)) at hb1
  refine rd_of (v := msgC m p cp) (cells_all hb1 rfl) ?_
  refine allocC_of fun w4 hb4 hs4 hf4 => ?_
  rw [hs1] at hb4 hs4 ⊢
  refine rd_of (v := ()) rfl ?_
  refine stC_all hb4 rfl (by intro v hv; simp only [msgC, List.mem_cons, List.not_mem_nil, or_false] at hv; rcases hv with rfl | rfl | rfl | rfl | rfl | rfl | rfl | rfl | rfl | rfl | rfl | rfl | rfl | rfl | rfl | rfl | rfl | rfl | rfl | rfl | rfl | rfl | rfl <;> rfl) fun w5 hb5 hf5 => ?_
  have hs5 : w5.heap.size ≥ w.heap.size + 2 := by have := hf5.size; omega
  refine allocC_of fun w7 hb7 hs7 hf7 => ?_
  obtain ⟨A, hA⟩ : ∃ A, A = w5.heap.size := ⟨_, rfl⟩
  rw [← hA] at hb7 ⊢
  have hF7 : Fm none' w w7 := ((hf1.trans hf4).trans' hf5 (by rintro i hi rfl; omega)).trans hf7
  have hB7 := hf7.keep hb5 id
  have hw7 : WrAt w7 w.heap.size A 84 (.bool false) [] none := ⟨.slice none 0 0, hb7, ⟨rfl, .inl ⟨rfl, rfl⟩⟩, rfl, by simp, hF7.size⟩
  refine (fields22_c (m := m) (p := p) (cp := cp) (B := w.heap.size + 1) hw7 hB7 hm (by omega) (by simp) (fun j y hj => ?_) (fun ad e hne => by have := hp ad e hne; have := hF7.size; omega) (by simp; omega)).mono ?_
  · obtain ⟨ad, e, hc⟩ := hy j y hj
    exact ⟨ad, e, by have := hp ad e (ne_of hj); omega, by simp, hF7.cell hc id⟩
  rintro _ w9 ⟨rfl, _, g9, hw9, hg9, hf9⟩
  simp only [vcs, eqV, nilV, Option.map_some, Nat.mul_one, implies_true, true_and, and_true, and_self]
  have hF9 : Fm none' w w9 := hF7.trans' hf9 (by rintro i hi (e | e); omega; cases e)
  refine br_ndec' (fun hk => ?_) (fun hk => ?_)
  · refine ⟨?_, hF9⟩
    unfold rightM; rw [hk]; rfl
  simp only [List.nil_append, Bool.false_or] at hw9
  obtain ⟨v9, h91, h92, h93, h94, h95⟩ := id hw9
  refine rd_of (v := .bool (fieldBad m)) (cellOf h91 rfl) ?_
  simp only [vcs, eqV, nilV, Option.map_some, Nat.mul_one, implies_true, true_and, and_true, and_self]
  refine br_b (fun hbad => ?_) (fun hbad => ?_)
  · refine ⟨?_, hF9⟩
    unfold rightM; rw [hk, hbad]; rfl
  have hfl := fieldBits_len m
  refine (bytes23_c hw9 (by omega)).mono ?_
  rintro v13 w14 ⟨hv13, hfr13, hf14⟩
  obtain ⟨p13, c13, rfl, -⟩ := own_read hv13
  simp only [vcs, eqV, nilV, Option.map_some, Nat.mul_one, implies_true, true_and, and_true, and_self]
  have hF14 := hF9.trans hf14
  refine (reader25_c (base := w.heap.size) (BytesAt.of_own hv13) (pack_range _) (by rw [pack_length]; omega) hF14.size).mono ?_
  rintro _ w19 ⟨R, gR, rfl, hR, hbr, hgR, hf19⟩
  simp only [vcs, eqV, nilV, Option.map_some, Nat.mul_one, implies_true, true_and, and_true, and_self]
  have hF19 := hF14.trans hf19
  refine allocC_of fun w22 hb22 hs22 hf22 => ?_
  have hF22 := hF19.trans hf22
  have hb1' : w22.heap[w.heap.size]? = some (.cells (msgC m p cp).toArray 53 (0, 0)) := by
    refine hf22.keep (hf19.keep (hf14.keep (hf9.keep (hf7.keep (hf5.keep (hf4.keep hb1 id) ?_) id) ?_) id) id) id
    · omega
    · rintro (e | e); omega; cases e
  refine rd_of (v := .int .i64 m.kind) (cellOf hb1' rfl) ?_
  simp only [vcs, eqV, nilV, Option.map_some, Nat.mul_one, implies_true, true_and, and_true, and_self]
  refine allocC_of fun w26 hb26 hs26 hf26 => ?_
  refine stC_all hb26 rfl (by intro v hv; simp only [List.mem_cons, List.not_mem_nil, or_false] at hv; rcases hv with rfl | rfl | rfl | rfl | rfl | rfl | rfl | rfl | rfl | rfl | rfl | rfl | rfl | rfl | rfl | rfl | rfl | rfl | rfl | rfl | rfl | rfl | rfl <;> rfl) fun w27 hb27 hf27 => ?_
  change w27.heap[w22.heap.size]? = some (.cells (msgC (blank m.kind) none 0).toArray 53 (0, 0)) at hb27
  have hF26 : Fm none' w19 w27 := (hf22.trans hf26).trans' hf27 (by rintro i hi rfl; omega)
  have hrl := hbr.lt
  have hrd : RdAt w27 w.heap.size w19.heap.size R ⟨byteBits (pack (fieldBits m)), 0⟩ gR := by
    refine ⟨hf27.keep (hf26.keep hb22 id) (by omega), by omega, fun e => by have := hrl.2 _ e; omega, hbr.keep hF26 id fun _ _ y => y⟩
  refine (rfields22_c (k := m.kind) hrd hb27 (by omega) (by omega) (fun e => by have := hrl.2 _ e; omega) (by have := hF19.size; have := hF26.size; omega)).mono ?_
  rintro _ w29 ⟨rfl, p29, c29, hrd29, hb29, hf29, hown29, hfr29⟩
  simp only [vcs, eqV, nilV, Option.map_some, Nat.mul_one, implies_true, true_and, and_true, and_self]
  have hR9 := hF9.size
  have hR14 := hf14.size
  have hb1'' : w29.heap[w.heap.size]? = some (.cells (msgC m p cp).toArray 53 (0, 0)) := by
    refine hf29.keep (hf27.keep (hf26.keep hb1' id) ?_) ?_
    · have := hF19.size; omega
    · have := hF19.size; have := lt_of_blk hb1; have h9 := lt_of_blk h91; rintro (e | e | e) <;> omega
  refine rd_of (v := msgC m p cp) (cells_all hb1'' rfl) ?_
  refine rd_of (v := msgC _ p29 c29) (cells_all hb29 rfl) ?_
  have hF29 : Fm none' w w29 := (hF19.trans hF26).trans' hf29 (by have := hF19.size; have h9 := lt_of_blk h91; rintro i hi (e | e | e) <;> omega)
  refine (same26_c (hy.keep hF29 fun _ _ => id) (BytesAt.of_own hown29) (by omega)).mono ?_
  rintro _ w34 ⟨rfl, hf34⟩
  simp only [vcs, eqV, nilV, Option.map_some, Nat.mul_one, implies_true, true_and, and_true, and_self]
  refine ⟨?_, hF29.trans hf34⟩
  unfold rightM; rw [hk, hbad]; rfl
end Go.Proofs.YtipikchkbmgloaaDoor
namespace Go.Proofs.YtipikchkbmgloaaDoor
set_option linter.unusedSimpArgs false
set_option linter.unusedVariables false
open Go Go.RowKit VC
theorem BytesAt.keepN {w w' : World} {p : Option Addr} {ys : List Int} {S : Nat → Prop} (h : BytesAt w p ys) (f : Fm S w w') (hp : ∀ ad, p = some ad → ys ≠ [] → ¬ S ad.block) : BytesAt w' p ys := fun j y hj => by
  obtain ⟨ad, e, hc⟩ := h j y hj
  exact ⟨ad, e, f.cell hc (by rw [add_block]; exact hp ad e (ne_of hj))⟩
def MsgsAt (w : World) (N : Nat) (p : Option Addr) (ms : List Msg) : Prop :=
  ∀ j m, ms[j]? = some m → ∃ ad q cq, p = some ad ∧ ad.block < N ∧ cellsAt w (ad.add (j * 23)) 23 = some (msgC m q cq) ∧ BytesAt w q m.bytes ∧ (∀ ad', q = some ad' → m.bytes ≠ [] → ad'.block < N)
theorem MsgsAt.keep {w w' : World} {N : Nat} {p : Option Addr} {ms : List Msg} {S : Nat → Prop} (h : MsgsAt w N p ms) (f : Fm S w w') (hS : ∀ i, i < N → ¬ S i) : MsgsAt w' N p ms := fun j m hj => by
  obtain ⟨ad, q, cq, e, hb, hc, hq, hqb⟩ := h j m hj
  exact ⟨ad, q, cq, e, hb, f.cells (by rw [add_block]; exact hS _ hb) hc, hq.keepN f fun ad' e' hne => hS _ (hqb ad' e' hne), hqb⟩
theorem MsgsAt.up {w : World} {N N' : Nat} {p : Option Addr} {ms : List Msg} (h : MsgsAt w N p ms) (hN : N ≤ N') : MsgsAt w N' p ms := fun j m hj => by
  obtain ⟨ad, q, cq, e, hb, hc, hq, hqb⟩ := h j m hj
  exact ⟨ad, q, cq, e, by omega, hc, hq, fun ad' e' hne => by have := hqb ad' e' hne; omega⟩
theorem msgC_one {m : Msg} {q : Option Addr} {cq : Nat} : ∀ v ∈ msgC m q cq, v.oneCell' = true := by
  intro v hv
  simp only [msgC, List.mem_cons, List.not_mem_nil, or_false] at hv
  rcases hv with rfl | rfl | rfl | rfl | rfl | rfl | rfl | rfl | rfl | rfl | rfl | rfl | rfl | rfl | rfl | rfl | rfl | rfl | rfl | rfl | rfl | rfl | rfl <;> rfl
def oneBits (m : Msg) : List Int := bitsOf (IntKind.u64.wrap m.kind) 4 ++ fieldBits m
def encBits (ms : List Msg) : List Int := bitsOf (IntKind.u64.wrap ms.length) 5 ++ ms.flatMap oneBits
def encodeM (ms : List Msg) : List Int × Int := if ms.all rightM then (if 16 < ms.length ∨ 1024 < (pack (encBits ms)).length then ([], 5) else (pack (encBits ms), 0)) else ([], 1)
structure Msok (ms : List Msg) : Prop where
  ok : ∀ m ∈ ms, Mok m
  len : ∀ m ∈ ms, m.bytes.length ≤ 2000
  many : ms.length ≤ 1000
theorem oneBits_sum {ms : List Msg} (h : ∀ m ∈ ms, m.bytes.length ≤ 2000) : (ms.flatMap oneBits).length ≤ ms.length * 16304 := by
  induction ms with
  | nil => simp
  | cons m ms ih =>
    have h1 := ih fun x hx => h x (List.mem_cons_of_mem _ hx)
    have h2 := h m (by simp)
    have h3 := fieldBits_len m
    rw [List.flatMap_cons, List.length_append, List.length_cons, Nat.succ_mul]
    unfold oneBits at h1 ⊢
    rw [List.length_append, bitsOf_length]
    omega
variable {w : World}
set_option maxRecDepth 20000 in
set_option maxHeartbeats 2000000 in
theorem encode14_c {ms : List Msg} {p : Option Addr} {c N : Nat} (hm : MsgsAt w N p ms) (hN : N ≤ w.heap.size) (hok : Msok ms) :
    callV Tryd.prog 22 [.slice p ms.length c] w fun v w' => ∃ sv, v = .tuple #[sv, .int .i64 (encodeM ms).2] ∧ w'.ownsRow w.heap.size 5 1 sv (encodeM ms).1.length ((encodeM ms).1.map (Value.int .u8)) ∧ Fm none' w w' := by
  obtain ⟨hok1, hok2, hok3⟩ := hok
  have hsum : ∀ j, (encBits ms).length ≤ 20000000 ∧ (bitsOf (IntKind.u64.wrap (ms.length : Int)) 5 ++ (ms.take j).flatMap oneBits).length ≤ 20000000 := by
    intro j
    have h1 := oneBits_sum hok2
    have h2 := oneBits_sum (ms := ms.take j) fun m hm => hok2 m (List.mem_of_mem_take hm)
    have h3 : (ms.take j).length ≤ ms.length := by rw [List.length_take]; omega
    unfold encBits
    rw [List.length_append, List.length_append, bitsOf_length]
    have h4 : ms.length * 16304 ≤ 1000 * 16304 := Nat.mul_le_mul_right _ hok3
    have h5 : (ms.take j).length * 16304 ≤ 1000 * 16304 := Nat.mul_le_mul_right _ (by omega)
    omega
  refine vc22 p ms.length c w _ ?_
  refine allocC_of fun w1 hb1 hs1 hf1 => ?_
  obtain ⟨A, hA⟩ : ∃ A, A = w.heap.size := ⟨_, rfl⟩
  rw [← hA] at hb1 ⊢
  have hw1 : WrAt w1 w.heap.size A 84 (.bool false) [] none := ⟨.slice none 0 0, hb1, ⟨rfl, .inl ⟨rfl, rfl⟩⟩, rfl, by simp, hf1.size⟩
  refine (put21_c _ 5 (by omega) hw1 (by simp)).mono ?_
  rintro _ w3 ⟨rfl, g3, hw3, hg3, hf3⟩
  have hF3 : Fm none' w w3 := hf1.trans' hf3 (by rintro i hi (e | e); omega; cases e)
  have hnil : ∀ (e : Int) (w' : World), Fm none' w w' → ∃ sv, Value.tuple #[.slice none 0 0, .int .i64 e] = .tuple #[sv, .int .i64 e] ∧ w'.ownsRow w.heap.size 5 1 sv ([] : List Int).length (([] : List Int).map (Value.int .u8)) ∧ Fm none' w w' :=
    fun e w' hf => ⟨_, rfl, ⟨rfl, .inl ⟨rfl, rfl⟩⟩, hf⟩
  have hfr : ∀ (g' : Option Nat), (g' = none ∨ ∃ b, g' = some b ∧ w1.heap.size ≤ b) → ∀ i, g' = some i → w.heap.size < i := by
    rintro g' (e | ⟨b, e, hb⟩) i hi
    · rw [e] at hi; cases hi
    · rw [e] at hi; cases hi; omega
  refine ⟨fun u w' => ∃ (j : Nat) (g' : Option Nat), j ≤ ms.length ∧ u 19 = .int .i64 j ∧ (∀ m ∈ ms.take j, rightM m = true) ∧ WrAt w' w.heap.size A 84 (.bool false) (bitsOf (IntKind.u64.wrap (ms.length : Int)) 5 ++ (ms.take j).flatMap oneBits) g' ∧ (∀ i, g' = some i → w.heap.size < i) ∧ Fm none' w w',
    fun u _ => ms.length - (intOf (u 19)).toNat, ?_, ?_⟩
  · refine ⟨0, g3, by omega, rfl, by simp, ?_, hfr g3 hg3, hF3⟩
    simp only [List.take_zero, List.flatMap_nil, List.append_nil]
    exact hw3
  rintro u w7 ⟨j, g', hj, h19, hright, hw7, hg', hF⟩
  change u 19 = .int .i64 j at h19
  simp only [h19, vcs, eqV, nilV, Option.map_some, Nat.mul_one, implies_true, true_and, and_true, and_self]
  have hl7 := hw7.lt
  refine br_dec (fun hjn => ?_) (fun hjn => ?_)
  · obtain ⟨m, hmj⟩ : ∃ m, ms[j]? = some m := ⟨ms[j]'(by omega), by simp⟩
    have hmem : m ∈ ms := List.mem_of_getElem? hmj
    obtain ⟨ad, q, cq, rfl, hadN, hcells, hq, hqN⟩ := (hm.keep hF fun _ _ => id) j m hmj
    simp only [vcs, eqV, nilV, Option.map_some, Nat.mul_one, implies_true, true_and, and_true, and_self]
    refine ⟨by omega, rd_of hcells ?_⟩
    refine allocC_of fun w16 hb16 hs16 hf16 => ?_
    refine rd_of (v := ()) rfl ?_
    refine stC_all hb16 rfl msgC_one fun w17 hb17 hf17 => ?_
    obtain ⟨B, hB⟩ : ∃ B, B = w7.heap.size := ⟨_, rfl⟩
    rw [← hB] at hb17 hf17 ⊢
    have hF17 : Fm none' w7 w17 := hf16.trans' hf17 (by rintro i hi rfl; omega)
    refine rd_of (v := msgC m q cq) (cells_all hb17 rfl) ?_
    have hFw17 : Fm none' w w17 := hF.trans hF17
    have hBw : w.heap.size ≤ B := by rw [hB]; exact hF.size
    refine (right16_c (hok1 m hmem) (hq.keep hF17 fun _ _ => id) (fun ad' e hne => by have := hqN ad' e hne; have := hFw17.size; omega) (by have := hok2 m hmem; omega)).mono ?_
    rintro _ w20 ⟨rfl, hf20⟩
    simp only [vcs, eqV, nilV, Option.map_some, Nat.mul_one, implies_true, true_and, and_true, and_self]
    have hF20 : Fm none' w w20 := hFw17.trans hf20
    refine br_ndec' (fun hr => ?_) (fun hr => ?_)
    · have : encodeM ms = ([], 1) := by
        unfold encodeM
        rw [if_neg]
        intro h
        rw [List.all_eq_true] at h
        rw [h m hmem] at hr; cases hr
      rw [this, hA]
      exact hnil 1 w20 hF20
    · have hb20 : w20.drew.heap[B]? = some (.cells (msgC m q cq).toArray 53 (0, 0)) := hf20.keep hb17 id
      have hw20 : WrAt w20.drew w.heap.size A 84 (.bool false) (bitsOf (IntKind.u64.wrap (ms.length : Int)) 5 ++ (ms.take j).flatMap oneBits) g' := hw7.keep ((hF17.trans hf20).trans (Fm.drew w20)) id fun _ _ y => y
      have hBA : B ≠ A := by omega
      have hBg : g' ≠ some B := fun e => by have := hl7.2 _ e; omega
      refine ⟨fun w' => w'.heap[B]? = some (.cells (msgC m q cq).toArray 53 (0, 0)), hb20, ?_⟩
      simp only [vcs, eqV, nilV, Option.map_some, Nat.mul_one, implies_true, true_and, and_true, and_self]
      refine rd_of (v := .int .i64 m.kind) (cellOf hb20 rfl) ⟨fun w' hw => rd_of (cellOf hw rfl) rfl, ?_⟩
      simp only [vcs, eqV, nilV, Option.map_some, Nat.mul_one, implies_true, true_and, and_true, and_self]
      have hlen1 := (hsum j).2
      refine (put21_c _ 4 (by omega) hw20 (by omega)).mono ?_
      rintro _ w39 ⟨rfl, g39, hw39, hg39, hf39⟩
      have hb39 := hf39.keep hb20 (by rintro (e | e); exact hBA e; exact hBg e)
      have hs20 : w7.heap.size ≤ w20.heap.size := (hF17.trans hf20).size
      have hB20 := lt_of_blk hb20
      have hBg39 : g39 ≠ some B := apart_of hB20 hBg hg39
      have hg39w : ∀ i, g39 = some i → w.heap.size < i := by
        rcases hg39 with e | ⟨b, e, hb⟩
        · rw [e]; exact hg'
        · intro i hi
          rw [e] at hi; cases hi
          have : w20.drew.heap.size = w20.heap.size := rfl
          omega
      have hF39 : Fm none' w w39 := (hF20.trans (Fm.drew w20)).trans' hf39 (by rintro i hi (e | e); omega; have := hg' _ e; omega)
      refine (fields22_c (m := m) (p := q) (cp := cq) hw39 hb39 (hok1 m hmem) hBA hBg39 (fun i y hi => ?_) (fun ad' e hne => by have := hqN ad' e hne; have := hF39.size; omega) (by rw [List.length_append, bitsOf_length]; have := hok2 m hmem; omega)).mono ?_
      · obtain ⟨ad', e, hc⟩ := (hq.keep (hF17.trans hf20) fun _ _ => id) i y hi
        have hb := hqN ad' e (ne_of hi)
        refine ⟨ad', e, by omega, fun e' => by have := hg39w _ e'; omega, ?_⟩
        exact hf39.cell (w := w20.drew) hc (by rw [add_block]; rintro (e' | e'); omega; have := hg' _ e'; omega)
      rintro _ w41 ⟨rfl, _, g41, hw41, hg41, hf41⟩
      simp only [vcs, eqV, nilV, Option.map_some, Nat.mul_one, implies_true, true_and, and_true, and_self]
      rw [w64 (by omega)]
      have hbad : fieldBad m = false := by
        unfold rightM at hr
        simp only [Bool.and_eq_true, Bool.not_eq_true'] at hr
        exact hr.1.2
      rw [hbad] at hw41
      refine ⟨⟨j + 1, g41, by omega, rfl, ?_, ?_, ?_, ?_⟩, ?_⟩
      · rw [List.take_add_one, hmj]
        intro x hx
        rcases List.mem_append.1 hx with hx | hx
        · exact hright x hx
        · simp at hx; subst hx; exact hr
      · rw [List.take_add_one, hmj, Option.toList_some, List.flatMap_append, List.flatMap_cons, List.flatMap_nil, List.append_nil]
        unfold oneBits at hw41 ⊢
        simp only [List.append_assoc] at hw41 ⊢
        exact hw41
      · rcases hg41 with e | ⟨b, e, hb⟩
        · rw [e]; exact hg39w
        · intro i hi
          rw [e] at hi; cases hi
          have := hF39.size; have := lt_of_blk hb39; omega
      · exact hF39.trans' hf41 (by rintro i hi (e | e); omega; have := hg39w _ e; omega)
      · show ms.length - ((j : Int) + 1).toNat < ms.length - (j : Int).toNat; omega
  · have : j = ms.length := by omega
    subst this
    rw [List.take_length] at hw7 hright
    have hall : ms.all rightM = true := List.all_eq_true.2 hright
    refine (bytes23_c hw7 (by have := (hsum 0).1; unfold encBits at this; omega)).mono ?_
    rintro v w46 ⟨hv, -, hf46⟩
    obtain ⟨p46, c46, rfl, -⟩ := own_read hv
    simp only [vcs, eqV, nilV, Option.map_some, Nat.mul_one, implies_true, true_and, and_true, and_self]
    have hF46 := hF.trans hf46
    refine br_dec (fun h16 => ?_) (fun h16 => ?_)
    · have : encodeM ms = ([], 5) := by
        unfold encodeM
        rw [if_pos hall, if_pos (.inl (by omega))]
      rw [this, hA]
      exact hnil 5 w46 hF46
    · refine br_dec (fun h10 => ?_) (fun h10 => ?_)
      · have : encodeM ms = ([], 5) := by
          unfold encodeM
          rw [if_pos hall, if_pos (.inr (by unfold encBits; omega))]
        rw [this, hA]
        exact hnil 5 w46 hF46
      · have : encodeM ms = (pack (encBits ms), 0) := by
          unfold encodeM
          rw [if_pos hall, if_neg]
          unfold encBits
          omega
        rw [this, hA]
        exact ⟨_, rfl, hv, hF46⟩
end Go.Proofs.YtipikchkbmgloaaDoor
namespace Go.Proofs.YtipikchkbmgloaaDoor
set_option linter.unusedSimpArgs false
set_option linter.unusedVariables false
open Go Go.RowKit VC
def OwnMsgs (w : World) (base : Nat) (sv : Value) (ms : List Msg) : Prop :=
  ∃ qs : List (Option Addr × Nat), qs.length = ms.length ∧ w.ownsRow base 53 23 sv ms.length ((ms.zip qs).flatMap fun x => msgC x.1 x.2.1 x.2.2) ∧
    ∀ (j : Nat) (m : Msg) (q : Option Addr × Nat), ms[j]? = some m → qs[j]? = some q → w.ownsRow base 5 1 (.slice q.1 m.bytes.length q.2) m.bytes.length (m.bytes.map (Value.int .u8))
theorem own_tag {w : World} {base e size n : Nat} {v : Value} {xs : List Value} {i t : Nat} {c : Array Value} (h : w.ownsRow base e size v n xs) (hi : w.heap[i]? = some (.cells c t (0, 0))) (hne : t ≠ e) : v.ownBlock ≠ some i := fun ho => by
  obtain ⟨_, cur, hc⟩ := own_block h ho
  rw [hi] at hc
  cases hc; exact hne rfl
theorem OwnMsgs.nil (w : World) (base : Nat) : OwnMsgs w base (.slice none 0 0) [] := ⟨[], rfl, ⟨rfl, .inl ⟨rfl, rfl⟩⟩, fun j m q h => by simp at h⟩
theorem OwnMsgs.keep {w w' : World} {base : Nat} {sv : Value} {ms : List Msg} {S : Nat → Prop} (h : OwnMsgs w base sv ms) (f : Fm S w w') (hS : ∀ i c t, w.heap[i]? = some (.cells c t (0, 0)) → base ≤ i → (t = 53 ∨ t = 5) → ¬ S i) : OwnMsgs w' base sv ms := by
  obtain ⟨qs, h1, h2, h3⟩ := h
  refine ⟨qs, h1, f.owns h2 fun i hi => ?_, fun j m q hj hq => f.owns (h3 j m q hj hq) fun i hi => ?_⟩
  · obtain ⟨hb, cur, hc⟩ := own_block h2 hi; exact hS i _ _ hc hb (.inl rfl)
  · obtain ⟨hb, cur, hc⟩ := own_block (h3 j m q hj hq) hi; exact hS i _ _ hc hb (.inr rfl)
def decGo : Nat → RS → List Msg → List Msg × RS
  | 0, s, acc => (acc, s)
  | n + 1, s, acc => if s.e = 0 then
      decGo n (rdF (known (blank (IntKind.i64.wrap (rdW 4 s).1))) (rdFields (IntKind.i64.wrap (rdW 4 s).1) (rdW 4 s).2).2) (acc ++ [(rdFields (IntKind.i64.wrap (rdW 4 s).1) (rdW 4 s).2).1])
    else (acc, s)
def decodeM (ys : List Int) : List Msg × Int :=
  let n := rdW 5 ⟨byteBits ys, 0⟩
  let r := decGo n.1.toNat (rdF (decide (n.1 ≤ 16)) n.2) []
  let s := rdF (restOk r.2.rem && decide (ys.length ≤ 1024)) r.2
  if s.e = 0 then (r.1, 0) else ([], s.e)
def lenOf (v : Value) : Nat := match v with | .slice _ n _ => n | _ => 0
variable {w : World}
set_option maxRecDepth 20000 in
set_option maxHeartbeats 2000000 in
theorem decode18_c {ys : List Int} {p : Option Addr} {c : Nat} (hb : BytesAt w p ys) (hy : ∀ y ∈ ys, 0 ≤ y ∧ y < 256) (hl : ys.length ≤ 1000000) :
    callV Tryd.prog 30 [.slice p ys.length c] w fun v w' => ∃ sv, v = .tuple #[sv, .int .i64 (decodeM ys).2] ∧ OwnMsgs w' w.heap.size sv (decodeM ys).1 ∧ Fm none' w w' := by
  refine vc30 p ys.length c w _ ?_
  refine (reader25_c (base := w.heap.size) hb hy (by omega) (Nat.le_refl _)).mono ?_
  rintro _ w1 ⟨R, g, rfl, hR, hbr, hg, hf1⟩
  simp only [vcs, eqV, nilV, Option.map_some, Nat.mul_one, implies_true, true_and, and_true, and_self]
  refine allocC_of fun w4 hb4 hs4 hf4 => allocC_of fun w6 hb6 hs6 hf6 => ?_
  obtain ⟨A, hA⟩ : ∃ A, A = w1.heap.size := ⟨_, rfl⟩
  obtain ⟨N, hN⟩ : ∃ N, N = w4.heap.size := ⟨_, rfl⟩
  rw [← hA] at hb4
  rw [← hN] at hb6
  rw [← hA, ← hN]
  have hRl := hbr.lt
  have hF6 : Fm none' w w6 := (hf1.trans hf4).trans hf6
  have hws := hf1.size
  have hr6 : RdAt w6 w.heap.size A R ⟨byteBits ys, 0⟩ g := ⟨hf6.keep hb4 id, by omega, (fun e => by have := hRl.2 _ e; omega), hbr.keep (hf4.trans hf6) id fun _ _ y => y⟩
  have hgl := getR_lt (k := 5) hr6.2.2.2.bits
  refine (rnum30_c (k := 5) (by omega) hr6 hb6 (i := 0) rfl (by omega) (by omega) (fun e => by have := hRl.2 _ e; omega)).mono ?_
  rintro _ w8 ⟨rfl, hr8, hb8, hf8⟩
  obtain ⟨⟨n, s1⟩, hn⟩ : ∃ r, rdW 5 (⟨byteBits ys, 0⟩ : RS) = r := ⟨_, rfl⟩
  rw [hn] at hr8 hb8
  have hn1 : n = (getR 5 (byteBits ys)).1 := by
    have := congrArg Prod.fst hn
    exact this.symm
  have hnr : 0 ≤ n ∧ n < 32 := by rw [hn1]; exact hgl
  rw [w64 (by show _ ≤ n ∧ n ≤ _; omega)] at hb8
  have hb8' : w8.heap[N]? = some (.cells #[.int .i64 n] 3 (0, 0)) := hb8
  refine rd_of (v := .int .i64 n) (cellOf hb8' rfl) ?_
  simp only [vcs, eqV, nilV, Option.map_some, Nat.mul_one, implies_true, true_and, and_true, and_self]
  refine (within31_c _ hr8).mono ?_
  rintro _ w12 ⟨rfl, hr12, hf12⟩
  have hF8 : Fm none' w w8 := hF6.trans' hf8 (by rintro i hi (e | e | e) <;> omega)
  have hF12 : Fm none' w w12 := hF8.trans' hf12 (by rintro i hi e; omega)
  have hb12 := hf12.keep hb8' (by omega)
  obtain ⟨s2, hs2⟩ : ∃ s2, s2 = rdF (decide (n ≤ 16)) s1 := ⟨_, rfl⟩
  have hs2' : rdF (decide (n ≤ 16)) (n, s1).2 = s2 := hs2.symm
  rw [hs2'] at hr12
  obtain ⟨n0, hn0⟩ : ∃ n0 : Nat, n = n0 := ⟨n.toNat, by omega⟩
  subst hn0
  have hdec : decodeM ys = (let r := decGo n0 s2 []
      let s := rdF (restOk r.2.rem && decide (ys.length ≤ 1024)) r.2
      if s.e = 0 then (r.1, 0) else ([], s.e)) := by
    unfold decodeM
    rw [hn, hs2]
    rfl
  refine ⟨fun u w' => ∃ (s' : RS) (acc : List Msg) (sv : Value), u 6 = sv ∧ RdAt w' w.heap.size A R s' g ∧ w'.heap[N]? = some (.cells #[.int .i64 n0] 3 (0, 0)) ∧ OwnMsgs w' w.heap.size sv acc ∧ Fm none' w w' ∧ acc.length ≤ n0 ∧ decGo (n0 - acc.length) s' acc = decGo n0 s2 [],
    fun u _ => n0 - lenOf (u 6), ?_, ?_⟩
  · exact ⟨s2, [], _, rfl, hr12, hb12, OwnMsgs.nil _ _, hF12, by simp, rfl⟩
  rintro u w16 ⟨s', acc, sv, h6, hr, hbN, hown, hF, hlen, hgo⟩
  change u 6 = sv at h6
  have hown' := hown
  obtain ⟨qs, hq1, hq2, hq3⟩ := hown
  obtain ⟨ps, cs, rfl, -, -⟩ := own_readS hq2
  simp only [h6, vcs, eqV, nilV, Option.map_some, Nat.mul_one, implies_true, true_and, and_true, and_self]
  refine rd_of (v := .int .i64 n0) (cellOf hbN rfl) ?_
  simp only [vcs, eqV, nilV, Option.map_some, Nat.mul_one, implies_true, true_and, and_true, and_self]
  have hrl := hr.lt
  have hNl := lt_of_blk hbN
  have hws16 := hF.size
  -- the end
  have fin : decGo n0 s2 [] = (acc, s') → ∀ (ok : Bool) (w51 : World), ok = (restOk s'.rem && decide (ys.length ≤ 1024)) → Fm none' w16 w51 →
      callV Tryd.prog 54 [.pointer (some ⟨A, 0, none⟩), .bool ok] w51 fun _ w54 => ∃ e : Int, (w54.heap[A]? = some (.cells #[.pointer (some ⟨R, 0, none⟩), .int .i64 e] 92 (0, 0))) ∧
        (e = 0 → ∃ sv, Value.tuple #[.slice ps acc.length cs, .int .i64 0] = .tuple #[sv, .int .i64 (decodeM ys).2] ∧ OwnMsgs w54 w.heap.size sv (decodeM ys).1 ∧ Fm none' w w54) ∧
        (e ≠ 0 → ∃ sv, Value.tuple #[.slice none 0 0, .int .i64 e] = .tuple #[sv, .int .i64 (decodeM ys).2] ∧ OwnMsgs w54.drew w.heap.size sv (decodeM ys).1 ∧ Fm none' w w54.drew) := by
    intro hd ok w51 hok hf51
    rw [hd] at hdec
    refine (within31_c ok (hr.keep hf51 id id fun _ _ y => y)).mono ?_
    rintro _ w54 ⟨-, h54, hf54⟩
    have hF54 : Fm none' w w54 := (hF.trans hf51).trans' hf54 (by rintro i hi e; omega)
    refine ⟨_, h54.1, fun he => ?_, fun he => ?_⟩
    · have : decodeM ys = (acc, 0) := by
        rw [hdec]
        simp only []
        rw [← hok, if_pos he]
      rw [this]
      refine ⟨_, rfl, (hown'.keep hf51 fun _ _ _ _ _ _ => id).keep hf54 ?_, hF54⟩
      rintro i c t hc _ ht e
      have hA51 := hf51.keep hr.1 id
      rw [e, hA51] at hc
      cases hc; rcases ht with h | h <;> cases h
    · have : decodeM ys = ([], (rdF ok s').e) := by
        rw [hdec]
        simp only []
        rw [← hok, if_neg he]
      rw [this]
      exact ⟨_, rfl, OwnMsgs.nil _ _, hF54.trans (Fm.drew w54)⟩
  have fin2 : decGo n0 s2 [] = (acc, s') → rd (w16.cell? ⟨A, 0, none⟩) fun v48 => isP v48 fun o49 => callV Tryd.prog 55 [.pointer o49] w16 fun v50 w51 => isB v50 fun t52 =>
      ∀ ok : Bool, ok = (t52 && decide (ys.length ≤ 1024)) → callV Tryd.prog 54 [.pointer (some ⟨A, 0, none⟩), .bool ok] w51 fun _ w54 => ∃ e : Int, (w54.heap[A]? = some (.cells #[.pointer (some ⟨R, 0, none⟩), .int .i64 e] 92 (0, 0))) ∧
        (e = 0 → ∃ sv, Value.tuple #[.slice ps acc.length cs, .int .i64 0] = .tuple #[sv, .int .i64 (decodeM ys).2] ∧ OwnMsgs w54 w.heap.size sv (decodeM ys).1 ∧ Fm none' w w54) ∧
        (e ≠ 0 → ∃ sv, Value.tuple #[.slice none 0 0, .int .i64 e] = .tuple #[sv, .int .i64 (decodeM ys).2] ∧ OwnMsgs w54.drew w.heap.size sv (decodeM ys).1 ∧ Fm none' w w54.drew) := by
    intro hd
    refine rd_of (v := .pointer (some ⟨R, 0, none⟩)) (cellOf hr.1 rfl) ?_
    simp only [vcs, eqV, nilV, Option.map_some, Nat.mul_one, implies_true, true_and, and_true, and_self]
    refine (rest32_c hr.2.2.2).mono ?_
    rintro _ w51 ⟨rfl, hf51⟩
    exact fun ok hok => fin hd ok w51 hok hf51
  have fin3 : decGo n0 s2 [] = (acc, s') → rd (w16.cell? ⟨A, 0, none⟩) fun v48 => isP v48 fun o49 => callV Tryd.prog 55 [.pointer o49] w16 fun v50 w51 => isB v50 fun t52 =>
      br t52 (callV Tryd.prog 54 [.pointer (some ⟨A, 0, none⟩), .bool (decide ((ys.length : Int) ≤ 1024))] w51 fun _ w54 => rd (w54.cell? ⟨A, 1, none⟩) fun v55 => isK .i64 v55 fun i56 =>
        br (!decide (i56 = 0)) (rd (w54.drew.cell? ⟨A, 1, none⟩) fun v57 => isK .i64 v57 fun i58 => ∃ sv, Value.tuple #[.slice none 0 0, .int .i64 i58] = .tuple #[sv, .int .i64 (decodeM ys).2] ∧ OwnMsgs w54.drew w.heap.size sv (decodeM ys).1 ∧ Fm none' w w54.drew)
          (∃ sv, Value.tuple #[.slice ps acc.length cs, .int .i64 0] = .tuple #[sv, .int .i64 (decodeM ys).2] ∧ OwnMsgs w54 w.heap.size sv (decodeM ys).1 ∧ Fm none' w w54))
       (callV Tryd.prog 54 [.pointer (some ⟨A, 0, none⟩), .bool false] w51 fun _ w54 => rd (w54.cell? ⟨A, 1, none⟩) fun v55 => isK .i64 v55 fun i56 =>
        br (!decide (i56 = 0)) (rd (w54.drew.cell? ⟨A, 1, none⟩) fun v57 => isK .i64 v57 fun i58 => ∃ sv, Value.tuple #[.slice none 0 0, .int .i64 i58] = .tuple #[sv, .int .i64 (decodeM ys).2] ∧ OwnMsgs w54.drew w.heap.size sv (decodeM ys).1 ∧ Fm none' w w54.drew)
          (∃ sv, Value.tuple #[.slice ps acc.length cs, .int .i64 0] = .tuple #[sv, .int .i64 (decodeM ys).2] ∧ OwnMsgs w54 w.heap.size sv (decodeM ys).1 ∧ Fm none' w w54)) := by
    intro hd
    have h := fin2 hd
    obtain ⟨v48, hv48, h⟩ := rd_ex h
    refine rd_of hv48 ?_
    cases v48 <;> simp only [isP] at h ⊢
    refine h.mono ?_
    intro v50 w51 h
    obtain ⟨t52, rfl, h⟩ := isB_ex h
    simp only [vcs, eqV, nilV, Option.map_some, Nat.mul_one, implies_true, true_and, and_true, and_self]
    have tail : ∀ (w54 : World), (∃ e : Int, (w54.heap[A]? = some (.cells #[.pointer (some ⟨R, 0, none⟩), .int .i64 e] 92 (0, 0))) ∧
        (e = 0 → ∃ sv, Value.tuple #[.slice ps acc.length cs, .int .i64 0] = .tuple #[sv, .int .i64 (decodeM ys).2] ∧ OwnMsgs w54 w.heap.size sv (decodeM ys).1 ∧ Fm none' w w54) ∧
        (e ≠ 0 → ∃ sv, Value.tuple #[.slice none 0 0, .int .i64 e] = .tuple #[sv, .int .i64 (decodeM ys).2] ∧ OwnMsgs w54.drew w.heap.size sv (decodeM ys).1 ∧ Fm none' w w54.drew)) →
        rd (w54.cell? ⟨A, 1, none⟩) fun v55 => isK .i64 v55 fun i56 =>
        br (!decide (i56 = 0)) (rd (w54.drew.cell? ⟨A, 1, none⟩) fun v57 => isK .i64 v57 fun i58 => ∃ sv, Value.tuple #[.slice none 0 0, .int .i64 i58] = .tuple #[sv, .int .i64 (decodeM ys).2] ∧ OwnMsgs w54.drew w.heap.size sv (decodeM ys).1 ∧ Fm none' w w54.drew)
          (∃ sv, Value.tuple #[.slice ps acc.length cs, .int .i64 0] = .tuple #[sv, .int .i64 (decodeM ys).2] ∧ OwnMsgs w54 w.heap.size sv (decodeM ys).1 ∧ Fm none' w w54) := by
      rintro w54 ⟨e, hA54, h0, h1⟩
      refine rd_of (v := .int .i64 e) (cellOf hA54 rfl) ?_
      simp only [vcs, eqV, nilV, Option.map_some, Nat.mul_one, implies_true, true_and, and_true, and_self]
      refine br_ndec (fun he => ?_) (fun he => h0 he)
      refine rd_of (v := .int .i64 e) (cellOf (w := w54.drew) (b := A) hA54 rfl) ?_
      simp only [vcs, eqV, nilV, Option.map_some, Nat.mul_one, implies_true, true_and, and_true, and_self]
      exact h1 he
    cases t52 with
    | true => exact (h (decide ((ys.length : Int) ≤ 1024)) (by rw [Bool.true_and, decide_eq_decide]; omega)).mono fun _ w54 h => tail w54 h
    | false => exact (h false rfl).mono fun _ w54 h => tail w54 h
  refine br_dec (fun hjn => ?_) (fun hjn => ?_)
  · refine rd_of (v := .int .i64 s'.e) (cellOf hr.1 rfl) ?_
    simp only [vcs, eqV, nilV, Option.map_some, Nat.mul_one, implies_true, true_and, and_true, and_self]
    refine br_dec (fun he => ?_) (fun he => ?_)
    · obtain ⟨m0, hm0⟩ : ∃ m0, n0 - acc.length = m0 + 1 := ⟨n0 - acc.length - 1, by omega⟩
      obtain ⟨kk, hkk⟩ : ∃ kk, kk = IntKind.i64.wrap (rdW 4 s').1 := ⟨_, rfl⟩
      rw [hm0] at hgo
      simp only [decGo, if_pos he, ← hkk] at hgo
      refine allocC_of fun w26 hb26 hs26 hf26 => ?_
      change w26.heap[w16.heap.size]? = some (.cells (msgC (blank 0) none 0).toArray 53 (0, 0)) at hb26
      obtain ⟨B, hB⟩ : ∃ B, B = w16.heap.size := ⟨_, rfl⟩
      rw [← hB] at hb26 ⊢
      have hr26 := hr.keep hf26 id id fun _ _ y => y
      have hBg : g ≠ some B := fun e => by have := hrl.2.2 _ e; omega
      refine (rnum30_c (k := 4) (i := 0) (x := 0) (by omega) hr26 hb26 rfl (by omega) (by omega) hBg).mono ?_
      rintro _ w28 ⟨rfl, hr28, hb28, hf28⟩
      rw [← hkk] at hb28
      change w28.heap[B]? = some (.cells (msgC (blank kk) none 0).toArray 53 (0, 0)) at hb28
      have hs28 := hf28.size
      refine (rfields22_c (k := kk) hr28 hb28 (by omega) (by omega) hBg (by omega)).mono ?_
      rintro _ w30 ⟨rfl, p30, c30, hr30, hb30, hf30, hown30, hfr30⟩
      simp only [vcs, eqV, nilV, Option.map_some, Nat.mul_one, implies_true, true_and, and_true, and_self]
      refine (within31_c _ hr30).mono ?_
      rintro _ w33 ⟨rfl, hr33, hf33⟩
      obtain ⟨m, hm⟩ : ∃ m, m = (rdFields kk (rdW 4 s').2).1 := ⟨_, rfl⟩
      rw [← hm] at hb30 hown30 hgo
      have hb33 := hf33.keep hb30 (by omega)
      refine rd_of (v := msgC m p30 c30) (cells_all hb33 rfl) ?_
      have hs30 := hf30.size
      have hs33 := hf33.size
      have hF33 : Fm (fun i => i = A ∨ i = R ∨ i = B) w16 w33 := ((hf26.none.trans hf28).trans hf30).trans (hf33.mono fun i _ e => .inl e)
      have hFw33 : Fm none' w w33 := hF.trans' hF33 (by rintro i hi (e | e | e) <;> omega)
      have hOR : ∀ i c t, w16.heap[i]? = some (.cells c t (0, 0)) → w.heap.size ≤ i → (t = 53 ∨ t = 5) → ¬ (i = A ∨ i = R ∨ i = B) := by
        rintro i c t hc _ ht (e | e | e)
        · rw [e, hr.1] at hc; cases hc; rcases ht with h | h <;> cases h
        · obtain ⟨vR, YR, nR, h1R, _⟩ := hr.2.2.2
          rw [e, h1R] at hc; cases hc; rcases ht with h | h <;> cases h
        · have := lt_of_blk hc; omega
      have hO33 : OwnMsgs w33 w.heap.size (.slice ps acc.length cs) acc := hown'.keep hF33 hOR
      have hown33 : w33.ownsRow w.heap.size 5 1 (.slice p30 m.bytes.length c30) m.bytes.length (m.bytes.map (Value.int .u8)) := (hf33.owns hown30 (fun i hi e => by
        obtain ⟨_, cur, hc⟩ := own_block hown30 hi
        rw [e, hr30.1] at hc; cases hc))
      obtain ⟨qs', hl', ho', hb'⟩ := hO33
      refine append_S (by rw [row24]) row53 rfl (by omega) (by omega) rfl msgC_one ho' (by omega) (by simp only [maxLen]; omega) (by omega) fun v44 w44 hv44 hf44 hblk => ?_
      obtain ⟨p44, c44, rfl, -⟩ := own_readS hv44
      simp only [vcs, eqV, nilV, Option.map_some, Nat.mul_one, implies_true, true_and, and_true, and_self]
      have hlen' : (acc ++ [m]).length = acc.length + 1 := by simp
      have hsl : ∀ i, (Value.slice ps acc.length cs).ownBlock = some i → ∃ cur, w33.heap[i]? = some (.cells cur 53 (0, 0)) := fun i hi => (own_block ho' hi).2
      have hk44 : ∀ {i : Nat} {c : Array Value} {t : TypeId}, w33.heap[i]? = some (.cells c t (0, 0)) → t ≠ 53 → w44.heap[i]? = some (.cells c t (0, 0)) := fun hc ht => hf44.keep hc fun e => by
        obtain ⟨cur, hc'⟩ := hsl _ e
        rw [hc] at hc'; cases hc'; exact ht rfl
      have hF44 : Fm none' w w44 := hFw33.trans' hf44 (fun i hi e => by have := (own_block ho' e).1; omega)
      refine ⟨⟨rdF (known (blank kk)) (rdFields kk (rdW 4 s').2).2, acc ++ [m], _, rfl, ?_, hk44 (hF33.keep hbN (by rintro (e | e | e) <;> omega)) (by decide), ⟨qs' ++ [(p30, c30)], by simp [hl'], ?_, ?_⟩, hF44, by omega, ?_⟩, ?_⟩
      · refine hr33.keep hf44 (fun e => ?_) (fun e => ?_) (fun i hi e => ?_)
        · obtain ⟨cur, hc⟩ := hsl _ e
          rw [hr33.1] at hc; cases hc
        · obtain ⟨cur, hc⟩ := hsl _ e
          obtain ⟨vR, YR, nR, h1R, _⟩ := hr33.2.2.2
          rw [h1R] at hc; cases hc
        · obtain ⟨cur, hc⟩ := hsl _ e
          obtain ⟨vR, YR, nR, h1R, h2R, h3R, _⟩ := hr33.2.2.2
          obtain ⟨_, cur', hc'⟩ := own_block h2R (h3R.trans hi)
          rw [hc'] at hc; cases hc
      · rw [hlen', List.zip_append hl'.symm, List.flatMap_append]
        have : [(m, (p30, c30))].flatMap (fun x : Msg × Option Addr × Nat => msgC x.1 x.2.1 x.2.2) = msgC m p30 c30 := by simp
        show w44.ownsRow _ _ _ _ _ (_ ++ [(m, (p30, c30))].flatMap _)
        rw [this]
        exact hv44
      · intro j m' q' hj hq
        have keep5 : ∀ {q : Option Addr × Nat} {m : Msg}, w33.ownsRow w.heap.size 5 1 (.slice q.1 m.bytes.length q.2) m.bytes.length (m.bytes.map (Value.int .u8)) → w44.ownsRow w.heap.size 5 1 (.slice q.1 m.bytes.length q.2) m.bytes.length (m.bytes.map (Value.int .u8)) := fun h => hf44.owns h fun i hi e => by
          obtain ⟨cur, hc⟩ := hsl _ e
          obtain ⟨_, cur', hc'⟩ := own_block h hi
          rw [hc'] at hc; cases hc
        by_cases hjl : j < acc.length
        · rw [List.getElem?_append_left hjl] at hj
          rw [List.getElem?_append_left (by omega)] at hq
          exact keep5 (hb' j m' q' hj hq)
        · have hj1 : j = acc.length := by
            have := (List.getElem?_eq_some_iff.1 hj).1
            simp at this; omega
          subst hj1
          rw [List.getElem?_append_right (by omega)] at hj
          rw [List.getElem?_append_right (by omega)] at hq
          simp at hj
          simp [hl'] at hq
          subst hj hq
          exact keep5 (q := (p30, c30)) hown33
      · rw [hlen', show n0 - (acc.length + 1) = m0 by omega]
        exact hgo
      · show n0 - (acc.length + 1) < n0 - acc.length; omega
    · have hd : decGo n0 s2 [] = (acc, s') := by
        rw [← hgo]
        cases hz : n0 - acc.length with
        | zero => rfl
        | succ z => simp only [decGo]; rw [if_neg he]
      exact fin3 hd
  · have hd : decGo n0 s2 [] = (acc, s') := by
      rw [← hgo, show n0 - acc.length = 0 by omega]; rfl
    exact fin3 hd
end Go.Proofs.YtipikchkbmgloaaDoor
namespace Go.Proofs.YtipikchkbmgloaaDoor
set_option linter.unusedSimpArgs false
set_option linter.unusedVariables false
open Go VC
theorem vc14 (ap : Option Addr) (an : Nat) (ac : Nat) (bp : Option Addr) (bn : Nat) (bc : Nat) (w : World) (R : Value → World → Prop)
  (h : br (!decide ((↑an : Int) = (↑bn : Int))) (R (Value.bool false) w) (loopC (alist [((5 : Nat), Value.int IntKind.i64 (0 : Int))]) w fun u0 u1 => ∀ (u2 : Nat → Value) (w3 : World), u0 (alist [((5 : Nat), u2 (5 : Nat))]) w3 → isK IntKind.i64 (u2 (5 : Nat)) fun i5 => br (decide (i5 < (↑an : Int))) (isK IntKind.i64 (u2 (5 : Nat)) fun i6 => rd ap fun a7 => ((0 : Int) ≤ i6 ∧ i6 < (↑an : Int)) ∧ rd (cellsAt w3 (Addr.add a7 (Int.toNat i6 * (23 : Nat))) (23 : Nat)) fun l8 => allocC w3 (Obj.cells #[Value.int IntKind.i64 (0 : Int), Value.int IntKind.u16 (0 : Int), Value.int IntKind.u16 (0 : Int), Value.int IntKind.u8 (0 : Int), Value.int IntKind.i8 (0 : Int), Value.int IntKind.i8 (0 : Int), Value.int IntKind.i64 (0 : Int), Value.int IntKind.u16 (0 : Int), Value.int IntKind.i64 (0 : Int), Value.int IntKind.i64 (0 : Int), Value.int IntKind.i64 (0 : Int), Value.int IntKind.i64 (0 : Int), Value.int IntKind.i64 (0 : Int), Value.int IntKind.i64 (0 : Int), Value.int IntKind.i64 (0 : Int), Value.int IntKind.i64 (0 : Int), Value.int IntKind.i64 (0 : Int), Value.int IntKind.i64 (0 : Int), Value.int IntKind.i64 (0 : Int), Value.int IntKind.i64 (0 : Int), Value.int IntKind.u32 (0 : Int), Value.int IntKind.u32 (0 : Int), Value.slice none (0 : Nat) (0 : Nat)] (53 : Nat)) fun n9 w10 => rd (gd (List.length l8 == (23 : Nat))) fun _x => stC w10 { block := n9, off := (0 : Nat) : Addr } l8 fun w11 => isK IntKind.i64 (u2 (5 : Nat)) fun i12 => rd bp fun a13 => ((0 : Int) ≤ i12 ∧ i12 < (↑bn : Int)) ∧ rd (cellsAt w11 (Addr.add a13 (Int.toNat i12 * (23 : Nat))) (23 : Nat)) fun l14 => allocC w11 (Obj.cells #[Value.int IntKind.i64 (0 : Int), Value.int IntKind.u16 (0 : Int), Value.int IntKind.u16 (0 : Int), Value.int IntKind.u8 (0 : Int), Value.int IntKind.i8 (0 : Int), Value.int IntKind.i8 (0 : Int), Value.int IntKind.i64 (0 : Int), Value.int IntKind.u16 (0 : Int), Value.int IntKind.i64 (0 : Int), Value.int IntKind.i64 (0 : Int), Value.int IntKind.i64 (0 : Int), Value.int IntKind.i64 (0 : Int), Value.int IntKind.i64 (0 : Int), Value.int IntKind.i64 (0 : Int), Value.int IntKind.i64 (0 : Int), Value.int IntKind.i64 (0 : Int), Value.int IntKind.i64 (0 : Int), Value.int IntKind.i64 (0 : Int), Value.int IntKind.i64 (0 : Int), Value.int IntKind.i64 (0 : Int), Value.int IntKind.u32 (0 : Int), Value.int IntKind.u32 (0 : Int), Value.slice none (0 : Nat) (0 : Nat)] (53 : Nat)) fun n15 w16 => rd (gd (List.length l14 == (23 : Nat))) fun _x => stC w16 { block := n15, off := (0 : Nat) : Addr } l14 fun w17 => rd (World.cell? w17 { block := n9, off := (0 : Nat) : Addr }) fun v18 => isK IntKind.i64 v18 fun i19 => rd (World.cell? w17 { block := n15, off := (0 : Nat) : Addr }) fun v20 => isK IntKind.i64 v20 fun i21 => br (!decide (i19 = i21)) (R (Value.bool false) w17) (rd (World.cell? w17 { block := n9, off := (1 : Nat) : Addr }) fun v22 => isK IntKind.u16 v22 fun i23 => rd (World.cell? w17 { block := n15, off := (1 : Nat) : Addr }) fun v24 => isK IntKind.u16 v24 fun i25 => br (!decide (i23 = i25)) (R (Value.bool false) w17) (rd (cellsAt w17 { block := n9, off := (2 : Nat) : Addr } (5 : Nat)) fun l26 => rd (cellsAt w17 { block := n15, off := (2 : Nat) : Addr } (5 : Nat)) fun l27 => rd (Option.map (fun b => Value.bool !b) (eqL [(0 : Nat), (1 : Nat), (2 : Nat), (3 : Nat), (4 : Nat)] l26 l27)) fun v28 => isB v28 fun t29 => br t29 (R (Value.bool false) w17) (rd (World.cell? w17 { block := n9, off := (7 : Nat) : Addr }) fun v30 => isK IntKind.u16 v30 fun i31 => rd (World.cell? w17 { block := n15, off := (7 : Nat) : Addr }) fun v32 => isK IntKind.u16 v32 fun i33 => br (!decide (i31 = i33)) (R (Value.bool false) w17) (rd (World.cell? w17 { block := n9, off := (8 : Nat) : Addr }) fun v34 => isK IntKind.i64 v34 fun i35 => rd (World.cell? w17 { block := n15, off := (8 : Nat) : Addr }) fun v36 => isK IntKind.i64 v36 fun i37 => br (!decide (i35 = i37)) (R (Value.bool false) w17) (rd (World.cell? w17 { block := n9, off := (9 : Nat) : Addr }) fun v38 => isK IntKind.i64 v38 fun i39 => rd (World.cell? w17 { block := n15, off := (9 : Nat) : Addr }) fun v40 => isK IntKind.i64 v40 fun i41 => br (!decide (i39 = i41)) (R (Value.bool false) w17) (rd (cellsAt w17 { block := n9, off := (10 : Nat) : Addr } (3 : Nat)) fun l42 => rd (cellsAt w17 { block := n15, off := (10 : Nat) : Addr } (3 : Nat)) fun l43 => rd (Option.map (fun b => Value.bool !b) (eqL [(0 : Nat), (1 : Nat), (2 : Nat)] l42 l43)) fun v44 => isB v44 fun t45 => br t45 (R (Value.bool false) w17) (rd (World.cell? w17 { block := n9, off := (13 : Nat) : Addr }) fun v46 => isK IntKind.i64 v46 fun i47 => rd (World.cell? w17 { block := n15, off := (13 : Nat) : Addr }) fun v48 => isK IntKind.i64 v48 fun i49 => br (!decide (i47 = i49)) (R (Value.bool false) w17) (rd (cellsAt w17 { block := n9, off := (14 : Nat) : Addr } (3 : Nat)) fun l50 => rd (cellsAt w17 { block := n15, off := (14 : Nat) : Addr } (3 : Nat)) fun l51 => rd (Option.map (fun b => Value.bool !b) (eqL [(0 : Nat), (1 : Nat), (2 : Nat)] l50 l51)) fun v52 => isB v52 fun t53 => br t53 (R (Value.bool false) w17) (rd (cellsAt w17 { block := n9, off := (17 : Nat) : Addr } (3 : Nat)) fun l54 => rd (cellsAt w17 { block := n15, off := (17 : Nat) : Addr } (3 : Nat)) fun l55 => rd (Option.map (fun b => Value.bool !b) (eqL [(0 : Nat), (1 : Nat), (2 : Nat)] l54 l55)) fun v56 => isB v56 fun t57 => br t57 (R (Value.bool false) w17) (rd (World.cell? w17 { block := n9, off := (20 : Nat) : Addr }) fun v58 => isK IntKind.u32 v58 fun i59 => rd (World.cell? w17 { block := n15, off := (20 : Nat) : Addr }) fun v60 => isK IntKind.u32 v60 fun i61 => br (!decide (i59 = i61)) (R (Value.bool false) w17) (rd (World.cell? w17 { block := n9, off := (21 : Nat) : Addr }) fun v62 => isK IntKind.u32 v62 fun i63 => rd (World.cell? w17 { block := n15, off := (21 : Nat) : Addr }) fun v64 => isK IntKind.u32 v64 fun i65 => br (!decide (i63 = i65)) (R (Value.bool false) w17) (rd (World.cell? w17 { block := n9, off := (22 : Nat) : Addr }) fun v66 => isSl v66 fun o67 n68 n69 => runs Tryd.prog (convert (25 : Nat) (9 : Nat) (Value.slice o67 n68 n69)) w17 fun v70 w71 => isStr v70 fun x72 => rd (World.cell? w71 { block := n15, off := (22 : Nat) : Addr }) fun v73 => isSl v73 fun o74 n75 n76 => runs Tryd.prog (convert (25 : Nat) (9 : Nat) (Value.slice o74 n75 n76)) w71 fun v77 w78 => isStr v77 fun x79 => br (!decide (x72 = x79)) (R (Value.bool false) w78) (isK IntKind.i64 (u2 (5 : Nat)) fun i80 => again u0 u1 (alist [((5 : Nat), Value.int IntKind.i64 (IntKind.wrap IntKind.i64 (i80 + (1 : Int))))]) w78 (alist [((5 : Nat), u2 (5 : Nat))]) w3)))))))))))))) (R (Value.bool true) w3))) :
  callV Tryd.prog 14 [Value.slice ap an ac, Value.slice bp bn bc] w R :=
  vc_of hm ⟨fun _ => false, fun _ => .done, fun n => match n with | 4 => [5] | _ => []⟩ Tryd.func14 ent14 (by kernel_rfl) h

theorem vc9 (ap : Option Addr) (an : Nat) (ac : Nat) (w : World) (R : Value → World → Prop)
  (h : runs Tryd.prog (Instr.buildSlice (24 : Nat) (0 : Nat) #[]) w fun v0 w1 => isSl v0 fun o2 n3 n4 => runs Tryd.prog (Instr.sliceAt (24 : Nat) (Value.slice ap an ac) none (some (Value.int IntKind.i64 (min (↑an : Int) (20 : Int)))) none) w1 fun v5 w6 => isSl v5 fun o7 n8 n9 => runs Tryd.prog (Builtin.append_ #[(24 : Nat), (24 : Nat)] (24 : Nat) #[Value.slice o2 n3 n4, Value.slice o7 n8 n9]) w6 fun v10 w11 => isSl v10 fun o12 n13 n14 => loopC (alist [((3 : Nat), Value.int IntKind.i64 (0 : Int))]) w11 fun u15 u16 => ∀ (u17 : Nat → Value) (w18 : World), u15 (alist [((3 : Nat), u17 (3 : Nat))]) w18 → isK IntKind.i64 (u17 (3 : Nat)) fun i20 => br (decide (i20 < (↑n13 : Int))) (heldC (World.drew w18) fun u21 => (∀ (w22 : World), u21 w22 → Value.slice o12 n13 n14 = Value.slice o12 n13 n14 ∧ w22 = w22) ∧ (∀ (w24 : World), u21 w24 → u17 (3 : Nat) = u17 (3 : Nat) ∧ w24 = w24) ∧ isK IntKind.i64 (u17 (3 : Nat)) fun i26 => (∀ (w27 : World), u21 w27 → Value.slice o12 n13 n14 = Value.slice o12 n13 n14 ∧ w27 = w27) ∧ (∀ (w29 : World), u21 w29 → u17 (3 : Nat) = u17 (3 : Nat) ∧ w29 = w29) ∧ isK IntKind.i64 (u17 (3 : Nat)) fun i31 => rd o12 fun a32 => ((0 : Int) ≤ i31 ∧ i31 < (↑n13 : Int)) ∧ (∀ (w33 : World), u21 w33 → rd o12 fun a35 => ((0 : Int) ≤ i31 ∧ i31 < (↑n13 : Int)) ∧ Value.pointer (some (Addr.add a35 (Int.toNat i31 * (23 : Nat)))) = Value.pointer (some (Addr.add a32 (Int.toNat i31 * (23 : Nat)))) ∧ w33 = w33) ∧ (∀ (w36 : World), u21 w36 → Value.pointer (some (Addr.add (Addr.add a32 (Int.toNat i31 * (23 : Nat))) (22 : Nat))) = Value.pointer (some (Addr.add (Addr.add a32 (Int.toNat i31 * (23 : Nat))) (22 : Nat))) ∧ w36 = w36) ∧ rd (World.cell? (World.drew w18) (Addr.add (Addr.add a32 (Int.toNat i31 * (23 : Nat))) (22 : Nat))) fun v38 => (∀ (w39 : World), u21 w39 → rd (World.cell? w39 (Addr.add (Addr.add a32 (Int.toNat i31 * (23 : Nat))) (22 : Nat))) fun v41 => v41 = v38 ∧ w39 = w39) ∧ isSl v38 fun o42 n43 n44 => (∀ (w45 : World), u21 w45 → Value.slice o12 n13 n14 = Value.slice o12 n13 n14 ∧ w45 = w45) ∧ (∀ (w47 : World), u21 w47 → u17 (3 : Nat) = u17 (3 : Nat) ∧ w47 = w47) ∧ isK IntKind.i64 (u17 (3 : Nat)) fun i49 => rd o12 fun a50 => ((0 : Int) ≤ i49 ∧ i49 < (↑n13 : Int)) ∧ (∀ (w51 : World), u21 w51 → rd o12 fun a53 => ((0 : Int) ≤ i49 ∧ i49 < (↑n13 : Int)) ∧ Value.pointer (some (Addr.add a53 (Int.toNat i49 * (23 : Nat)))) = Value.pointer (some (Addr.add a50 (Int.toNat i49 * (23 : Nat)))) ∧ w51 = w51) ∧ (∀ (w54 : World), u21 w54 → Value.pointer (some (Addr.add (Addr.add a50 (Int.toNat i49 * (23 : Nat))) (22 : Nat))) = Value.pointer (some (Addr.add (Addr.add a50 (Int.toNat i49 * (23 : Nat))) (22 : Nat))) ∧ w54 = w54) ∧ rd (World.cell? (World.drew w18) (Addr.add (Addr.add a50 (Int.toNat i49 * (23 : Nat))) (22 : Nat))) fun v56 => (∀ (w57 : World), u21 w57 → rd (World.cell? w57 (Addr.add (Addr.add a50 (Int.toNat i49 * (23 : Nat))) (22 : Nat))) fun v59 => v59 = v56 ∧ w57 = w57) ∧ isSl v56 fun o60 n61 n62 => (∀ (w63 : World), u21 w63 → Value.int IntKind.i64 (↑n61 : Int) = Value.int IntKind.i64 (↑n61 : Int) ∧ w63 = w63) ∧ (∀ (w65 : World), u21 w65 → Value.int IntKind.i64 (min (↑n61 : Int) (2000 : Int)) = Value.int IntKind.i64 (min (↑n61 : Int) (2000 : Int)) ∧ w65 = w65) ∧ runs Tryd.prog (Instr.sliceAt (25 : Nat) (Value.slice o42 n43 n44) none (some (Value.int IntKind.i64 (min (↑n61 : Int) (2000 : Int)))) none) (World.drew w18) fun v67 w68 => (∀ (w69 : World), u21 w69 → runs Tryd.prog (Instr.sliceAt (25 : Nat) (Value.slice o42 n43 n44) none (some (Value.int IntKind.i64 (min (↑n61 : Int) (2000 : Int)))) none) w69 fun v71 w72 => v71 = v67 ∧ w72 = w69) ∧ isSl v67 fun o73 n74 n75 => runs Tryd.prog (Instr.buildSlice (25 : Nat) (0 : Nat) #[]) (World.drew w18) fun v76 w77 => isSl v76 fun o78 n79 n80 => u21 w77 ∧ runs Tryd.prog (Builtin.append_ #[(25 : Nat), (25 : Nat)] (25 : Nat) #[Value.slice o78 n79 n80, Value.slice o73 n74 n75]) w77 fun v81 w82 => isSl v81 fun o83 n84 n85 => u21 w82 ∧ rd o12 fun a86 => ((0 : Int) ≤ i26 ∧ i26 < (↑n13 : Int)) ∧ stC w82 (Addr.add (Addr.add a86 (Int.toNat i26 * (23 : Nat))) (22 : Nat)) [Value.slice o83 n84 n85] fun w87 => isK IntKind.i64 (u17 (3 : Nat)) fun i88 => again u15 u16 (alist [((3 : Nat), Value.int IntKind.i64 (IntKind.wrap IntKind.i64 (i88 + (1 : Int))))]) w87 (alist [((3 : Nat), u17 (3 : Nat))]) w18) (R (Value.slice o12 n13 n14) w18)) :
  callV Tryd.prog 9 [Value.slice ap an ac] w R :=
  vc_of hm ⟨fun _ => false, fun n => match n with | 5 => .take 0 (.take 1 (.take 3 (.take 4 (.take 5 (.take 6 (.take 7 (.take 8 (.take 9 (.take 10 (.take 11 (.take 12 (.take 13 (.take 14 (.take 15 (.one 2 (.one 16 (.last 17 (.last 18 (.last 19 (.done)))))))))))))))))))) | _ => .done, fun n => match n with | 3 => [3] | _ => []⟩ Tryd.func9 ent9 (by kernel_rfl) h

end Go.Proofs.YtipikchkbmgloaaDoor
namespace Go.Proofs.YtipikchkbmgloaaDoor
set_option linter.unusedSimpArgs false
set_option linter.unusedVariables false
open Go VC
theorem vc74 (a0 : Int) (a1 : Int) (a20 : Int) (a21 : Int) (a22 : Int) (a23 : Int) (a24 : Int) (a3 : Int) (a4 : Int) (a5 : Int) (a60 : Int) (a61 : Int) (a62 : Int) (a7 : Int) (a80 : Int) (a81 : Int) (a82 : Int) (a90 : Int) (a91 : Int) (a92 : Int) (a10 : Int) (a11 : Int) (a12p : Option Addr) (a12n : Nat) (a12c : Nat) (b0 : Int) (b1 : Int) (b20 : Int) (b21 : Int) (b22 : Int) (b23 : Int) (b24 : Int) (b3 : Int) (b4 : Int) (b5 : Int) (b60 : Int) (b61 : Int) (b62 : Int) (b7 : Int) (b80 : Int) (b81 : Int) (b82 : Int) (b90 : Int) (b91 : Int) (b92 : Int) (b10 : Int) (b11 : Int) (b12p : Option Addr) (b12n : Nat) (b12c : Nat) (w : World) (R : Value → World → Prop)
  (h : cutC (fun u0 => allocC w (Obj.cells #[Value.int IntKind.i64 a0, Value.int IntKind.u16 a1, Value.int IntKind.u16 a20, Value.int IntKind.u8 a21, Value.int IntKind.i8 a22, Value.int IntKind.i8 a23, Value.int IntKind.i64 a24, Value.int IntKind.u16 a3, Value.int IntKind.i64 a4, Value.int IntKind.i64 a5, Value.int IntKind.i64 a60, Value.int IntKind.i64 a61, Value.int IntKind.i64 a62, Value.int IntKind.i64 a7, Value.int IntKind.i64 a80, Value.int IntKind.i64 a81, Value.int IntKind.i64 a82, Value.int IntKind.i64 a90, Value.int IntKind.i64 a91, Value.int IntKind.i64 a92, Value.int IntKind.u32 a10, Value.int IntKind.u32 a11, Value.slice a12p a12n a12c] (53 : Nat)) fun n1 w2 => allocC w2 (Obj.cells #[Value.int IntKind.i64 b0, Value.int IntKind.u16 b1, Value.int IntKind.u16 b20, Value.int IntKind.u8 b21, Value.int IntKind.i8 b22, Value.int IntKind.i8 b23, Value.int IntKind.i64 b24, Value.int IntKind.u16 b3, Value.int IntKind.i64 b4, Value.int IntKind.i64 b5, Value.int IntKind.i64 b60, Value.int IntKind.i64 b61, Value.int IntKind.i64 b62, Value.int IntKind.i64 b7, Value.int IntKind.i64 b80, Value.int IntKind.i64 b81, Value.int IntKind.i64 b82, Value.int IntKind.i64 b90, Value.int IntKind.i64 b91, Value.int IntKind.i64 b92, Value.int IntKind.u32 b10, Value.int IntKind.u32 b11, Value.slice b12p b12n b12c] (53 : Nat)) fun n3 w4 => u0 (alist [((2 : Nat), Value.pointer (some { block := n1, off := (0 : Nat) : Addr })), ((3 : Nat), Value.pointer (some { block := n3, off := (0 : Nat) : Addr }))]) w4) fun u5 => ∀ (u6 : Nat → Value) (w7 : World), u5 (alist [((2 : Nat), u6 (2 : Nat)), ((3 : Nat), u6 (3 : Nat))]) w7 → cutC (fun u9 => isPtr (u6 (2 : Nat)) fun a10 => rd (World.cell? w7 a10) fun v11 => isK IntKind.i64 v11 fun i12 => isPtr (u6 (3 : Nat)) fun a13 => rd (World.cell? w7 a13) fun v14 => isK IntKind.i64 v14 fun i15 => br (decide (i12 = i15)) (isPtr (u6 (2 : Nat)) fun a16 => rd (World.cell? w7 (Addr.add a16 (1 : Nat))) fun v17 => isK IntKind.u16 v17 fun i18 => isPtr (u6 (3 : Nat)) fun a19 => rd (World.cell? w7 (Addr.add a19 (1 : Nat))) fun v20 => isK IntKind.u16 v20 fun i21 => br (decide (i18 = i21)) (isPtr (u6 (2 : Nat)) fun a22 => rd (cellsAt w7 (Addr.add a22 (2 : Nat)) (5 : Nat)) fun l23 => isPtr (u6 (3 : Nat)) fun a24 => rd (cellsAt w7 (Addr.add a24 (2 : Nat)) (5 : Nat)) fun l25 => rd (Option.map Value.bool (eqL [(0 : Nat), (1 : Nat), (2 : Nat), (3 : Nat), (4 : Nat)] l23 l25)) fun v26 => isB v26 fun t27 => br t27 (isPtr (u6 (2 : Nat)) fun a28 => rd (World.cell? w7 (Addr.add a28 (7 : Nat))) fun v29 => isK IntKind.u16 v29 fun i30 => isPtr (u6 (3 : Nat)) fun a31 => rd (World.cell? w7 (Addr.add a31 (7 : Nat))) fun v32 => isK IntKind.u16 v32 fun i33 => br (decide (i30 = i33)) (isPtr (u6 (2 : Nat)) fun a34 => rd (World.cell? w7 (Addr.add a34 (8 : Nat))) fun v35 => isK IntKind.i64 v35 fun i36 => isPtr (u6 (3 : Nat)) fun a37 => rd (World.cell? w7 (Addr.add a37 (8 : Nat))) fun v38 => isK IntKind.i64 v38 fun i39 => br (decide (i36 = i39)) (isPtr (u6 (2 : Nat)) fun a40 => rd (World.cell? w7 (Addr.add a40 (9 : Nat))) fun v41 => isK IntKind.i64 v41 fun i42 => isPtr (u6 (3 : Nat)) fun a43 => rd (World.cell? w7 (Addr.add a43 (9 : Nat))) fun v44 => isK IntKind.i64 v44 fun i45 => u9 (alist [((5 : Nat), Value.bool (decide (i42 = i45)))]) w7) (u9 (alist [((5 : Nat), Value.bool false)]) w7)) (u9 (alist [((5 : Nat), Value.bool false)]) w7)) (u9 (alist [((5 : Nat), Value.bool false)]) w7)) (u9 (alist [((5 : Nat), Value.bool false)]) w7)) (u9 (alist [((5 : Nat), Value.bool false)]) w7)) fun u46 => ∀ (u47 : Nat → Value) (w48 : World), u46 (alist [((5 : Nat), u47 (5 : Nat))]) w48 → isPtr (u6 (2 : Nat)) fun a50 => rd (cellsAt w48 (Addr.add a50 (10 : Nat)) (3 : Nat)) fun l51 => isPtr (u6 (3 : Nat)) fun a52 => rd (cellsAt w48 (Addr.add a52 (10 : Nat)) (3 : Nat)) fun l53 => rd (Option.map Value.bool (eqL [(0 : Nat), (1 : Nat), (2 : Nat)] l51 l53)) fun v54 => isB v54 fun t55 => br t55 (isPtr (u6 (2 : Nat)) fun a56 => rd (World.cell? w48 (Addr.add a56 (13 : Nat))) fun v57 => isK IntKind.i64 v57 fun i58 => isPtr (u6 (3 : Nat)) fun a59 => rd (World.cell? w48 (Addr.add a59 (13 : Nat))) fun v60 => isK IntKind.i64 v60 fun i61 => br (decide (i58 = i61)) (isPtr (u6 (2 : Nat)) fun a62 => rd (cellsAt w48 (Addr.add a62 (14 : Nat)) (3 : Nat)) fun l63 => isPtr (u6 (3 : Nat)) fun a64 => rd (cellsAt w48 (Addr.add a64 (14 : Nat)) (3 : Nat)) fun l65 => rd (Option.map Value.bool (eqL [(0 : Nat), (1 : Nat), (2 : Nat)] l63 l65)) fun v66 => isB v66 fun t67 => br t67 (isPtr (u6 (2 : Nat)) fun a68 => rd (cellsAt w48 (Addr.add a68 (17 : Nat)) (3 : Nat)) fun l69 => isPtr (u6 (3 : Nat)) fun a70 => rd (cellsAt w48 (Addr.add a70 (17 : Nat)) (3 : Nat)) fun l71 => rd (Option.map Value.bool (eqL [(0 : Nat), (1 : Nat), (2 : Nat)] l69 l71)) fun v72 => isB v72 fun t73 => br t73 (isPtr (u6 (2 : Nat)) fun a74 => rd (World.cell? w48 (Addr.add a74 (20 : Nat))) fun v75 => isK IntKind.u32 v75 fun i76 => isPtr (u6 (3 : Nat)) fun a77 => rd (World.cell? w48 (Addr.add a77 (20 : Nat))) fun v78 => isK IntKind.u32 v78 fun i79 => br (decide (i76 = i79)) (isPtr (u6 (2 : Nat)) fun a80 => rd (World.cell? w48 (Addr.add a80 (21 : Nat))) fun v81 => isK IntKind.u32 v81 fun i82 => isPtr (u6 (3 : Nat)) fun a83 => rd (World.cell? w48 (Addr.add a83 (21 : Nat))) fun v84 => isK IntKind.u32 v84 fun i85 => isB (u47 (5 : Nat)) fun t86 => br t86 (br (decide (i82 = i85)) (isPtr (u6 (2 : Nat)) fun a87 => rd (World.cell? w48 (Addr.add a87 (22 : Nat))) fun v88 => isSl v88 fun o89 n90 n91 => runs Tryd.prog (convert (25 : Nat) (9 : Nat) (Value.slice o89 n90 n91)) w48 fun v92 w93 => isStr v92 fun x94 => isPtr (u6 (3 : Nat)) fun a95 => rd (World.cell? w93 (Addr.add a95 (22 : Nat))) fun v96 => isSl v96 fun o97 n98 n99 => runs Tryd.prog (convert (25 : Nat) (9 : Nat) (Value.slice o97 n98 n99)) w93 fun v100 w101 => isStr v100 fun x102 => R (Value.bool (decide (x94 = x102))) w101) (R (Value.bool false) w48)) (R (Value.bool false) w48)) (isB (u47 (5 : Nat)) fun t103 => br t103 (R (Value.bool false) w48) (R (Value.bool false) w48))) (isB (u47 (5 : Nat)) fun t104 => br t104 (R (Value.bool false) w48) (R (Value.bool false) w48))) (isB (u47 (5 : Nat)) fun t105 => br t105 (R (Value.bool false) w48) (R (Value.bool false) w48))) (isB (u47 (5 : Nat)) fun t106 => br t106 (R (Value.bool false) w48) (R (Value.bool false) w48))) (isB (u47 (5 : Nat)) fun t107 => br t107 (R (Value.bool false) w48) (R (Value.bool false) w48))) :
  callV Tryd.prog 74 [Value.agg #[Value.int IntKind.i64 a0, Value.int IntKind.u16 a1, Value.int IntKind.u16 a20, Value.int IntKind.u8 a21, Value.int IntKind.i8 a22, Value.int IntKind.i8 a23, Value.int IntKind.i64 a24, Value.int IntKind.u16 a3, Value.int IntKind.i64 a4, Value.int IntKind.i64 a5, Value.int IntKind.i64 a60, Value.int IntKind.i64 a61, Value.int IntKind.i64 a62, Value.int IntKind.i64 a7, Value.int IntKind.i64 a80, Value.int IntKind.i64 a81, Value.int IntKind.i64 a82, Value.int IntKind.i64 a90, Value.int IntKind.i64 a91, Value.int IntKind.i64 a92, Value.int IntKind.u32 a10, Value.int IntKind.u32 a11, Value.slice a12p a12n a12c],
  Value.agg #[Value.int IntKind.i64 b0, Value.int IntKind.u16 b1, Value.int IntKind.u16 b20, Value.int IntKind.u8 b21, Value.int IntKind.i8 b22, Value.int IntKind.i8 b23, Value.int IntKind.i64 b24, Value.int IntKind.u16 b3, Value.int IntKind.i64 b4, Value.int IntKind.i64 b5, Value.int IntKind.i64 b60, Value.int IntKind.i64 b61, Value.int IntKind.i64 b62, Value.int IntKind.i64 b7, Value.int IntKind.i64 b80, Value.int IntKind.i64 b81, Value.int IntKind.i64 b82, Value.int IntKind.i64 b90, Value.int IntKind.i64 b91, Value.int IntKind.i64 b92, Value.int IntKind.u32 b10, Value.int IntKind.u32 b11, Value.slice b12p b12n b12c]] w R :=
  vc_of hm ⟨fun n => match n with | 1 => true | 2 => true | _ => false, fun _ => .done, fun n => match n with | 1 => [2, 3] | 2 => [5] | _ => []⟩ Tryd.func74 ent74 (by kernel_rfl) h

end Go.Proofs.YtipikchkbmgloaaDoor
