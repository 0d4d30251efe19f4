/- More small laws for walks: appends that tell where the row lies, marks of rounds, iterators that own rows of their own.  Conditions: none (a general text, over any program). -/
import Derived.Test.YtlhgibiffekpfaaLib
namespace Go.Proofs.Ytlhgibiffekpfaa.VC
set_option linter.unusedSimpArgs false
set_option linter.unusedVariables false
open Go Go.RowKit
theorem cell_drew (w : World) (a : Addr) : w.drew.cell? a = w.cell? a := rfl
theorem heap_drew (w : World) : w.drew.heap = w.heap := rfl
theorem cells_drew (w : World) (a : Addr) (n : Nat) : cellsAt w.drew a n = cellsAt w a n := by
  induction n with
  | zero => rfl
  | succ n ih => simp only [cellsAt, ih, cell_drew]
/-- append of one element; where the row lies then. -/
theorem append_1g {P : Program} {w : World} {t e : TypeId} {k : K} {by_ : Nat} {z x s : Value} {n base : Nat} {xs : List Value} {KK : Value → World → Prop} (ht : (row P t).k = .slice e) (he : row P e = ⟨k, 1, by_, some z⟩) (hzs : z.cells.size = 1)
    (hx : x.oneCell' = true) (hown : w.ownsRow base e 1 s n xs) (hb : base ≤ w.heap.size) (h63 : n + 1 ≤ maxLen) (hby : (n + 1) * by_ ≤ 140737488355328)
    (kk : ∀ p c w', w'.ownsRow base e 1 (.slice p (n + 1) c) (n + 1) (xs ++ [x]) → Fm (fun i => s.ownBlock = some i) w w' → ((Value.slice p (n + 1) c).ownBlock = s.ownBlock ∨ ∃ g, (Value.slice p (n + 1) c).ownBlock = some g ∧ w.heap.size ≤ g) → KK (.slice p (n + 1) c) w') :
    runs P (Instr.buildSlice t 1 #[(0, x)]) w fun v1 w1 => isSl v1 fun o n c => runs P (Builtin.append_ #[t, t] t #[s, .slice o n c]) w1 KK := by
  refine build_1 ht he hzs hx fun w1 hb1 hs1 hf1 => ?_
  simp only [isSl]
  refine append_at (news := [x]) ht he hzs (hf1.owns hown fun _ _ h => h) rfl (fun j u hj => ?_) (by simpa using hx) (by omega) h63 hby fun v' w' ho hf hg => ?_
  · match j, hj with
    | 0, hj => simp at hj; subst hj; rw [addr_add]; exact cellOf hb1 rfl
  · obtain ⟨p, c, rfl, -⟩ := own_read ho
    refine kk p c w' ho (hf1.none.trans hf) (hg.imp id fun h => ⟨_, h, by omega⟩)
theorem own_cap' {w : World} {base : Nat} {e : TypeId} {size n c : Nat} {p : Option Addr} {xs : List Value} (h : w.ownsRow base e size (.slice p n c) n xs) : n ≤ c := by
  rcases h.2 with ⟨h, rfl⟩ | ⟨g, cap, cur, hv, _, _, hc, _⟩
  · exact Nat.zero_le _
  · cases hv; exact hc
/-- append of cells that may be read, nil or not. -/
theorem append_r {P : Program} {w : World} {t e : TypeId} {k : K} {by_ : Nat} {z s : Value} {n base m c : Nat} {xs ys : List Value} {p : Option Addr} {KK : Value → World → Prop} (ht : (row P t).k = .slice e) (he : row P e = ⟨k, 1, by_, some z⟩) (hzs : z.cells.size = 1)
    (hown : w.ownsRow base e 1 s n xs) (hm : m = ys.length) (h1 : ∀ y ∈ ys, y.oneCell' = true) (h : ∀ (j : Nat) (y : Value), ys[j]? = some y → ∃ ad, p = some ad ∧ w.cell? (ad.add j) = some y) (hb : base ≤ w.heap.size) (h63 : n + m ≤ maxLen) (hby : (n + m) * by_ ≤ 140737488355328)
    (kk : ∀ p' c' w', w'.ownsRow base e 1 (.slice p' (n + m) c') (n + m) (xs ++ ys) → Fm (fun i => s.ownBlock = some i) w w' → ((Value.slice p' (n + m) c').ownBlock = s.ownBlock ∨ (Value.slice p' (n + m) c').ownBlock = some w.heap.size) → KK (.slice p' (n + m) c') w') :
    runs P (Builtin.append_ #[t, t] t #[s, .slice p m c]) w KK := by
  subst hm
  cases p with
  | none =>
    have : ys = [] := by
      cases ys with
      | nil => rfl
      | cons y ys => obtain ⟨_, e, _⟩ := h 0 y rfl; cases e
    subst this
    obtain ⟨b, cb, rfl, -⟩ := own_read hown
    have hnc := own_cap' hown
    obtain ⟨i, hi, hz, hsi, hbt⟩ := info_of_row he
    have hu := slice_of_row ht
    refine ⟨.slice b n cb, w, ?_, kk b cb w (by simpa using hown) (Fm.refl _ _) (.inl rfl)⟩
    cases b with
    | none => simp [Builtin.append_, run_underlying hu, run_size hi, hsi, Builtin.lenOf, hnc, Builtin.firstCells]
    | some a => simp [Builtin.append_, run_underlying hu, run_size hi, hsi, Builtin.lenOf, hnc, Builtin.firstCells, storeCells]
  | some a =>
    refine append_at (news := ys) ht he hzs hown rfl (fun j u hj => ?_) h1 hb h63 hby fun v' w' ho hf hg => ?_
    · obtain ⟨ad, e, hc⟩ := h j u hj
      cases e; exact hc
    · obtain ⟨p', c', rfl, -⟩ := own_read ho
      exact kk p' c' w' ho hf hg
theorem cells_at {W : World} {i n : Nat} {c : Array Value} {t : TypeId} {f : Nat × Nat} (e : i = n) (h : W.heap[n]? = some (.cells c t f)) : ∃ c t f, W.heap[i]? = some (.cells c t f) := by subst e; exact ⟨_, _, _, h⟩
theorem turnD_fm : ∀ (ds : List Nat) (w : World), Fm (fun i => i ∈ ds) w (turnD ds w) := by
  intro ds
  induction ds with
  | nil => intro w; exact Fm.refl _ _
  | cons D ds ih =>
    intro w
    refine ((Fm.grown (grownBy_putObj' w D (.deferred none))).mono fun i _ e => ?_).trans ((ih _).mono fun i _ h => List.mem_cons_of_mem _ h)
    cases e
    exact List.mem_cons_self
/-- The marks ds lie in w, above base. -/
def Marks (w : World) (base : Nat) (v : Value) : Prop := ∃ ds, v = encD ds ∧ ds.Nodup ∧ ∀ d ∈ ds, base ≤ d ∧ w.heap[d]? = some (.deferred (some []))
theorem Marks.nil (w : World) (base : Nat) : Marks w base (.tuple #[]) := ⟨[], rfl, List.nodup_nil, by simp⟩
theorem Marks.keep {w w' : World} {base : Nat} {v : Value} {S : Nat → Prop} (h : Marks w base v) (f : Fm S w w') (hS : ∀ i, base ≤ i → w.heap[i]? = some (.deferred (some [])) → ¬ S i) : Marks w' base v := by
  obtain ⟨ds, rfl, hn, h⟩ := h
  exact ⟨ds, rfl, hn, fun d hd => ⟨(h d hd).1, f.keep (h d hd).2 (hS d (h d hd).1 (h d hd).2)⟩⟩
theorem Marks.push {w : World} {base D : Nat} {v : Value} (h : Marks w base v) (hb : base ≤ D) (hD : w.heap[D]? = some (.deferred (some []))) (hne : ∀ ds, v = encD ds → D ∉ ds) : Marks w base (pushD D v) := by
  obtain ⟨ds, rfl, hn, h⟩ := h
  refine ⟨D :: ds, by simp only [pushD, dfOf_encD], List.nodup_cons.2 ⟨hne ds rfl, hn⟩, fun d hd => ?_⟩
  rcases List.mem_cons.1 hd with rfl | hd
  · exact ⟨hb, hD⟩
  · exact h d hd
/-- All marks lie below a place. -/
theorem Marks.lt {w : World} {base : Nat} {v : Value} (h : Marks w base v) : ∀ ds, v = encD ds → ∀ d ∈ ds, d < w.heap.size := by
  obtain ⟨ds, rfl, hn, h⟩ := h
  intro ds' he d hd
  have : ds' = ds := by have := congrArg dfOf he; rw [dfOf_encD, dfOf_encD] at this; exact this.symm
  subst this
  exact lt_of_blk (h d hd).2
theorem Marks.leave {w : World} {base : Nat} {v : Value} {K : World → Prop} (h : Marks w base v) (k : ∀ w', Fm (fun i => base ≤ i ∧ w.heap[i]? = some (.deferred (some []))) w w' → K w') : leaveC v w K := by
  obtain ⟨ds, rfl, hn, h⟩ := h
  unfold leaveC
  rw [dfOf_encD]
  cases ds with
  | nil => exact k w (Fm.refl _ _)
  | cons D ds => exact ⟨fun d hd => (h d hd).2, hn, k _ ((turnD_fm (D :: ds) w).mono fun i _ hi => h i hi)⟩
/-- What a round that goes on keeps: all that there was, and all cells, but the blocks of S. -/
def KpC (B : Nat) (S : Nat → Prop) (W W' : World) : Prop := (∀ i o, ¬ S i → i < B → W.heap[i]? = some o → W'.heap[i]? = some o) ∧ (∀ i c t f, ¬ S i → W.heap[i]? = some (.cells c t f) → W'.heap[i]? = some (.cells c t f)) ∧ W.heap.size ≤ W'.heap.size
theorem KpC.t {Bd : Nat} {S : Nat → Prop} (A B C : World) (h : KpC Bd S A B) (k : KpC Bd S B C) : KpC Bd S A C :=
  ⟨fun i o hi hb ho => k.1 i o hi hb (h.1 i o hi hb ho), fun i c t f hi ho => k.2.1 i c t f hi (h.2.1 i c t f hi ho), Nat.le_trans h.2.2 k.2.2⟩
theorem KpC.b {S : Nat → Prop} {B : Nat} (W : World) (l : Nat) (o o' : Obj) (hl : B ≤ l) (ho : W.heap[l]? = some o) (hc : o.isCells = false) (_ : o.isWalk = false) : KpC B S W (W.putObj l o') := by
  refine ⟨fun i x _ hb hx => ?_, fun i c t f _ hx => ?_, by simp [World.putObj]⟩
  · rw [World.putObj_heap_other (k := i) (r := l) (by omega)]; exact hx
  · rw [World.putObj_heap_other (k := i) (r := l) (by rintro rfl; rw [ho] at hx; cases hx; cases hc)]; exact hx
theorem KpC.fm {B : Nat} {S S' : Nat → Prop} {W W' : World} (h : Fm S' W W') (hS : ∀ i, i < W.heap.size → S' i → S i) : KpC B S W W' :=
  ⟨fun i _ hi _ ho => h.keep ho fun hs => hi (hS i (lt_of_blk ho) hs), fun i _ _ _ hi ho => h.keep ho fun hs => hi (hS i (lt_of_blk ho) hs), h.size⟩
theorem Fm.row_below {S : Nat → Prop} {w W W' : World} {row : Option Nat} (h : Fm S w W) (hg : W.grownBy W' row) {B : Nat} (hr : ∀ r, row = some r → B ≤ r ∧ ∃ o : Obj, W.heap[r]? = some o ∧ o.isCells = false) (hB : w.heap.size ≤ B) : Fm S w W' :=
  h.trans' (row_fm hg) fun i hi e => by have := (hr i e).1; omega
end Go.Proofs.Ytlhgibiffekpfaa.VC
