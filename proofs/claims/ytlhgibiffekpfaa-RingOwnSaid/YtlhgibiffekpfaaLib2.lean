/- More small laws for walks: appends that tell where the row lies, marks of rounds, iterators that own rows of their own.  Conditions: none (a general text, over any program). -/
import Derived.Test.YtlhgibiffekpfaaLib
namespace Go.Proofs.Ytlhgibiffekpfaa.VC
set_option linter.unusedSimpArgs false
set_option linter.unusedVariables false
open Go Go.RowKit
theorem cell_drew (w : World) (a : Addr) : w.drew.cell? a = w.cell? a := rfl
theorem heap_drew (w : World) : w.drew.heap = w.heap := rfl
theorem cells_drew (w : World) (a : Addr) (n : Nat) : cellsAt w.drew a n = cellsAt w a n := by
  induction n with
  | zero => rfl
  | succ n ih => simp only [cellsAt, ih, cell_drew]
/-- append of one element; where the row lies then. -/
theorem append_1g {P : Program} {w : World} {t e : TypeId} {k : K} {by_ : Nat} {z x s : Value} {n base : Nat} {xs : List Value} {KK : Value → World → Prop} (ht : (row P t).k = .slice e) (he : row P e = ⟨k, 1, by_, some z⟩) (hzs : z.cells.size = 1)
    (hx : x.oneCell' = true) (hown : w.ownsRow base e 1 s n xs) (hb : base ≤ w.heap.size) (h63 : n + 1 ≤ maxLen) (hby : (n + 1) * by_ ≤ 140737488355328)
    (kk : ∀ p c w', w'.ownsRow base e 1 (.slice p (n + 1) c) (n + 1) (xs ++ [x]) → Fm (fun i => s.ownBlock = some i) w w' → ((Value.slice p (n + 1) c).ownBlock = s.ownBlock ∨ ∃ g, (Value.slice p (n + 1) c).ownBlock = some g ∧ w.heap.size ≤ g) → KK (.slice p (n + 1) c) w') :
    runs P (Instr.buildSlice t 1 #[(0, x)]) w fun v1 w1 => isSl v1 fun o n c => runs P (Builtin.append_ #[t, t] t #[s, .slice o n c]) w1 KK := by
  refine build_1 ht he hzs hx fun w1 hb1 hs1 hf1 => ?_
  simp only [isSl]
  refine append_at (news := [x]) ht he hzs (hf1.owns hown fun _ _ h => h) rfl (fun j u hj => ?_) (by simpa using hx) (by omega) h63 hby fun v' w' ho hf hg => ?_
  · match j, hj with
    | 0, hj => simp at hj; subst hj; rw [addr_add]; exact cellOf hb1 rfl
  · obtain ⟨p, c, rfl, -⟩ := own_read ho
    refine kk p c w' ho (hf1.none.trans hf) (hg.imp id fun h => ⟨_, h, by omega⟩)
theorem own_cap' {w : World} {base : Nat} {e : TypeId} {size n c : Nat} {p : Option Addr} {xs : List Value} (h : w.ownsRow base e size (.slice p n c) n xs) : n ≤ c := by
  rcases h.2 with ⟨h, rfl⟩ | ⟨g, cap, cur, hv, _, _, hc, _⟩
  · exact Nat.zero_le _
  · cases hv; exact hc
/-- append of cells that may be read, nil or not. -/
theorem append_r {P : Program} {w : World} {t e : TypeId} {k : K} {by_ : Nat} {z s : Value} {n base m c : Nat} {xs ys : List Value} {p : Option Addr} {KK : Value → World → Prop} (ht : (row P t).k = .slice e) (he : row P e = ⟨k, 1, by_, some z⟩) (hzs : z.cells.size = 1)
    (hown : w.ownsRow base e 1 s n xs) (hm : m = ys.length) (h1 : ∀ y ∈ ys, y.oneCell' = true) (h : ∀ (j : Nat) (y : Value), ys[j]? = some y → ∃ ad, p = some ad ∧ w.cell? (ad.add j) = some y) (hb : base ≤ w.heap.size) (h63 : n + m ≤ maxLen) (hby : (n + m) * by_ ≤ 140737488355328)
    (kk : ∀ p' c' w', w'.ownsRow base e 1 (.slice p' (n + m) c') (n + m) (xs ++ ys) → Fm (fun i => s.ownBlock = some i) w w' → ((Value.slice p' (n + m) c').ownBlock = s.ownBlock ∨ (Value.slice p' (n + m) c').ownBlock = some w.heap.size) → KK (.slice p' (n + m) c') w') :
    runs P (Builtin.append_ #[t, t] t #[s, .slice p m c]) w KK := by
  subst hm
  cases p with
  | none =>
    have : ys = [] := by
      cases ys with
      | nil => rfl
      | cons y ys => obtain ⟨_, e, _⟩ := h 0 y rfl; cases e
    subst this
    obtain ⟨b, cb, rfl, -⟩ := own_read hown
    have hnc := own_cap' hown
    obtain ⟨i, hi, hz, hsi, hbt⟩ := info_of_row he
    have hu := slice_of_row ht
    refine ⟨.slice b n cb, w, ?_, kk b cb w (by simpa using hown) (Fm.refl _ _) (.inl rfl)⟩
    cases b with
    | none => simp [Builtin.append_, run_underlying hu, run_size hi, hsi, Builtin.lenOf, hnc, Builtin.firstCells]
    | some a => simp [Builtin.append_, run_underlying hu, run_size hi, hsi, Builtin.lenOf, hnc, Builtin.firstCells, storeCells]
  | some a =>
    refine append_at (news := ys) ht he hzs hown rfl (fun j u hj => ?_) h1 hb h63 hby fun v' w' ho hf hg => ?_
    · obtain ⟨ad, e, hc⟩ := h j u hj
      cases e; exact hc
    · obtain ⟨p', c', rfl, -⟩ := own_read ho
      exact kk p' c' w' ho hf hg
/-- A slice of one element that is more than one cell. -/
theorem build_Sg {P : Program} {w : World} {t e : TypeId} {k : K} {size by_ : Nat} {z : Value} {cs : List Value} {KK : Value → World → Prop} (ht : (row P t).k = .slice e) (he : row P e = ⟨k, size, by_, some z⟩) (hzs : z.cells.size = size)
    (hsz : 0 < size) (hbig : size ≤ 16777216) (hcs : cs.length = size)
    (kk : ∀ w', w'.heap[w.heap.size]? = some (.cells cs.toArray e (0, 0)) → w'.heap.size = w.heap.size + 1 → Fm none' w w' → KK (.slice (some ⟨w.heap.size, 0, none⟩) 1 1) w') : runs P (Instr.buildSlice t 1 #[(0, .agg cs.toArray)]) w KK := by
  obtain ⟨i, hi, hz, hsi, hbt⟩ := info_of_row he
  have hu := slice_of_row ht
  have hbuild : (Instr.buildSlice t 1 #[(0, .agg cs.toArray)]).run P w = .ok (.slice (some ⟨w.heap.size, 0, none⟩) 1 1) (w.alloc (.cells cs.toArray e)) := by
    have hf : ∀ C : Array Value, C.size = size → Instr.fill (fun i => some (i * size, size)) C [(0, .agg cs.toArray)] = some cs.toArray := by
      intro C hC
      have hc : (Value.agg cs.toArray).cells = cs.toArray := rfl
      have hfd : cs.toArray.zipIdx.foldl (fun acc (p : Value × Nat) => acc.setIfInBounds (0 + p.2) p.1) C = cs.toArray := by
        apply Array.ext'
        rw [← Array.foldl_toList]
        have : cs.toArray.zipIdx.toList = cs.zipIdx 0 := by simp
        rw [this, fold_set cs 0 C (by omega)]
        rw [List.drop_eq_nil_of_le (by simp; omega)]
        simp
      simp only [Instr.fill, hc, Nat.zero_mul]
      rw [if_neg (by simp; omega), hfd]
    have hr : ((Array.range (1 * size)).map (z.cells[· % z.cells.size]!)).size = size := by simp
    simp only [Instr.buildSlice, Sem.run_bind, run_underlying hu, run_size hi, hsi, Result.andThen_ok]
    rw [if_neg (by omega)]
    simp only [Sem.run_pure, Result.andThen_ok, Nat.one_mul, if_neg (show ¬ size = 0 by omega), Sem.run_bind, run_zero hi hz]
    rw [Nat.one_mul] at hr
    simp only [Sem.run_map, run_zero hi hz, Result.andThen_ok, hf _ hr, newRow, Sem.run_bind, Sem.run_pure]
    rfl
  exact ⟨_, _, hbuild, kk _ (by simpa using heap_alloc_new w (.cells cs.toArray e)) (by simp) (Fm.alloc w _)⟩
/-- append of elements of some cells each, nil or not. -/
theorem append_rS {P : Program} {w : World} {t e : TypeId} {k : K} {size by_ : Nat} {z s : Value} {n base m c : Nat} {xs ys : List Value} {p : Option Addr} {KK : Value → World → Prop} (ht : (row P t).k = .slice e) (he : row P e = ⟨k, size, by_, some z⟩) (hzs : z.cells.size = size) (hsz : 0 < size)
    (hown : w.ownsRow base e size s n xs) (hm : ys.length = m * size) (h1 : ∀ y ∈ ys, y.oneCell' = true) (h : ∀ (j : Nat) (y : Value), ys[j]? = some y → ∃ i o, p = some ⟨i, o, none⟩ ∧ w.cell? ⟨i, o + j, none⟩ = some y) (hb : base ≤ w.heap.size) (h63 : n + m ≤ maxLen) (hby : (n + m) * by_ ≤ 140737488355328)
    (kk : ∀ p' c' w', w'.ownsRow base e size (.slice p' (n + m) c') (n + m) (xs ++ ys) → Fm (fun i => s.ownBlock = some i) w w' → ((Value.slice p' (n + m) c').ownBlock = s.ownBlock ∨ (Value.slice p' (n + m) c').ownBlock = some w.heap.size) → KK (.slice p' (n + m) c') w') :
    runs P (Builtin.append_ #[t, t] t #[s, .slice p m c]) w KK := by
  obtain ⟨i, hi, hz, hsi, hbt⟩ := info_of_row he
  have hu := slice_of_row ht
  cases p with
  | none =>
    have : ys = [] := by
      cases ys with
      | nil => rfl
      | cons y ys => obtain ⟨_, _, e, _⟩ := h 0 y rfl; cases e
    subst this
    have hm0 : m = 0 := by
      rcases Nat.mul_eq_zero.1 (show m * size = 0 from hm.symm) with h | h
      · exact h
      · omega
    subst hm0
    obtain ⟨b, cb, rfl, -⟩ := own_readS hown
    have hnc := own_cap' hown
    refine ⟨.slice b n cb, w, ?_, kk b cb w (by simpa using hown) (Fm.refl _ _) (.inl rfl)⟩
    cases b with
    | none => simp [Builtin.append_, run_underlying hu, run_size hi, hsi, Builtin.lenOf, hnc, Builtin.firstCells]
    | some a => simp [Builtin.append_, run_underlying hu, run_size hi, hsi, Builtin.lenOf, hnc, Builtin.firstCells, storeCells]
  | some a =>
    obtain ⟨v', w', hr, hown', hg, hnil, hblk⟩ := run_append_own_at (P := P) w base t t e i z size by_ hu hi hz hsi hbt hzs hsz s n xs hown a m c ys hm
      (fun j u hj => by
        obtain ⟨_, _, e, hc⟩ := h j u hj
        cases e
        rw [addr_add]; exact hc) h1 h63 hby hb
    obtain ⟨p', c', rfl, -⟩ := own_readS hown'
    exact ⟨_, _, hr, kk p' c' w' hown' (Fm.grown hg) hblk⟩
theorem build_noneS {P : Program} {w : World} {t e : TypeId} {k : K} {size b : Nat} {z : Value} {KK : Value → World → Prop} (ht : (row P t).k = .slice e) (he : row P e = ⟨k, size, b, some z⟩)
    (kk : ∀ w', w'.ownsRow w.heap.size e size (.slice (some ⟨w.heap.size, 0, none⟩) 0 0) 0 [] → w.heap.size < w'.heap.size → Fm none' w w' → KK (.slice (some ⟨w.heap.size, 0, none⟩) 0 0) w') : runs P (Instr.buildSlice t 0 #[]) w KK := by
  obtain ⟨i, hi, hz, hsz, hbt⟩ := info_of_row he
  have hu := slice_of_row ht
  have hr : Array.range 0 = #[0] ∨ Array.range 0 = #[] := .inr rfl
  have hr : Array.range 0 = #[] := rfl
  have hbuild : (Instr.buildSlice t 0 #[]).run P w = .ok (.slice (some ⟨w.heap.size, 0, none⟩) 0 0) (w.alloc (.cells #[] e)) := by
    simp [Instr.buildSlice, run_underlying hu, run_size hi, hsz, run_zero hi hz, Instr.fill, newRow, hr]
  refine ⟨_, _, hbuild, kk _ ⟨by simp, .inr ⟨_, 0, #[], rfl, Nat.le_refl _, by simpa using heap_alloc_new w (.cells #[] e), Nat.le_refl _, by simp [maxLen], by simp, by simp⟩⟩ (by simp) (Fm.alloc w _)⟩
theorem sliceAt_loS {P : Program} {w : World} {t e : TypeId} {k : K} {size b : Nat} {z : Value} {a : Option Addr} {n c : Nat} {kl : IntKind} {l : Int} {KK : Value → World → Prop} (ht : (row P t).k = .slice e) (he : row P e = ⟨k, size, b, some z⟩) (h0 : 0 ≤ l) (h1 : l ≤ n)
    (kk : KK (.slice (if c = l.toNat then a else a.map (·.add (l.toNat * size))) (n - l.toNat) (c - l.toNat)) w) : runs P (Instr.sliceAt t (.slice a n c) (some (.int kl l)) none none) w KK := by
  obtain ⟨h, h2⟩ := elem_of_row ht
  obtain ⟨i, hi, hz, hsz, hbt⟩ := info_of_row he
  refine ⟨_, _, ?_, kk⟩
  rw [run_sliceAt_slice _ _ _ _ _ _ h, run_slice_l _ _ _ _ _ h _ _ h0 h1, h2, run_size hi, hsz]
  simp [Result.andThen, sliced]
theorem sliceAt_hiS {P : Program} {w : World} {t e : TypeId} {k : K} {size b : Nat} {z : Value} {a : Option Addr} {n c : Nat} {kl : IntKind} {l : Int} {KK : Value → World → Prop} (ht : (row P t).k = .slice e) (he : row P e = ⟨k, size, b, some z⟩) (h0 : 0 ≤ l) (h1 : l ≤ c)
    (kk : KK (.slice (if c = 0 then a else a.map (·.add 0)) l.toNat c) w) : runs P (Instr.sliceAt t (.slice a n c) none (some (.int kl l)) none) w KK := by
  obtain ⟨h, h2⟩ := elem_of_row ht
  obtain ⟨i, hi, hz, hsz, hbt⟩ := info_of_row he
  refine ⟨_, _, ?_, kk⟩
  rw [run_sliceAt_slice _ _ _ _ _ _ h, run_slice_h _ _ _ _ _ h _ _ h0 h1, h2, run_size hi, hsz]
  simp [Result.andThen, sliced]
/-- A slice of zeros. -/
theorem make_g {P : Program} {w : World} {t e : TypeId} {k : K} {by_ n base : Nat} {z : Value} {kl kc : IntKind} {K : Value → World → Prop} (ht : (row P t).k = .slice e) (he : row P e = ⟨k, 1, by_, some z⟩) (hzc : z.cells = #[z]) (hb : by_ * n ≤ 281474976710656) (h63 : n ≤ maxLen) (hbase : base ≤ w.heap.size)
    (kk : ∀ w', w'.ownsRow base e 1 (.slice (some ⟨w.heap.size, 0, none⟩) n n) n (List.replicate n z) → Fm none' w w' → K (.slice (some ⟨w.heap.size, 0, none⟩) n n) w') : runs P (Instr.makeSlice t (.int kl n) (.int kc n)) w K := by
  obtain ⟨i, hi, hz, hsz, hbt⟩ := info_of_row he
  have hu := slice_of_row ht
  obtain ⟨w', hr, ho, hg⟩ := run_make_full (P := P) w base t e i _ 1 hu hi hz hsz kl kc n (by rw [hbt]; exact hb) h63 hbase
  refine ⟨_, _, hr, kk w' ?_ ((Fm.grown hg).mono fun _ _ h => by cases h)⟩
  have : (madeCells z.cells (n * 1)).toList = List.replicate n z := by
    simp only [madeCells, hzc, Nat.mul_one]
    refine List.ext_getElem? fun j => ?_
    by_cases hj : j < n
    · simp [hj, Nat.mod_one]
    · simp [hj]
  rw [this] at ho
  exact ho
theorem cells_at {W : World} {i n : Nat} {c : Array Value} {t : TypeId} {f : Nat × Nat} (e : i = n) (h : W.heap[n]? = some (.cells c t f)) : ∃ c t f, W.heap[i]? = some (.cells c t f) := by subst e; exact ⟨_, _, _, h⟩
theorem turnD_fm : ∀ (ds : List Nat) (w : World), Fm (fun i => i ∈ ds) w (turnD ds w) := by
  intro ds
  induction ds with
  | nil => intro w; exact Fm.refl _ _
  | cons D ds ih =>
    intro w
    refine ((Fm.grown (grownBy_putObj' w D (.deferred none))).mono fun i _ e => ?_).trans ((ih _).mono fun i _ h => List.mem_cons_of_mem _ h)
    cases e
    exact List.mem_cons_self
/-- The marks ds lie in w, above base. -/
def Marks (w : World) (base : Nat) (v : Value) : Prop := ∃ ds, v = encD ds ∧ ds.Nodup ∧ ∀ d ∈ ds, base ≤ d ∧ w.heap[d]? = some (.deferred (some []))
theorem Marks.nil (w : World) (base : Nat) : Marks w base (.tuple #[]) := ⟨[], rfl, List.nodup_nil, by simp⟩
theorem Marks.keep {w w' : World} {base : Nat} {v : Value} {S : Nat → Prop} (h : Marks w base v) (f : Fm S w w') (hS : ∀ i, base ≤ i → w.heap[i]? = some (.deferred (some [])) → ¬ S i) : Marks w' base v := by
  obtain ⟨ds, rfl, hn, h⟩ := h
  exact ⟨ds, rfl, hn, fun d hd => ⟨(h d hd).1, f.keep (h d hd).2 (hS d (h d hd).1 (h d hd).2)⟩⟩
theorem Marks.push {w : World} {base D : Nat} {v : Value} (h : Marks w base v) (hb : base ≤ D) (hD : w.heap[D]? = some (.deferred (some []))) (hne : ∀ ds, v = encD ds → D ∉ ds) : Marks w base (pushD D v) := by
  obtain ⟨ds, rfl, hn, h⟩ := h
  refine ⟨D :: ds, by simp only [pushD, dfOf_encD], List.nodup_cons.2 ⟨hne ds rfl, hn⟩, fun d hd => ?_⟩
  rcases List.mem_cons.1 hd with rfl | hd
  · exact ⟨hb, hD⟩
  · exact h d hd
/-- All marks lie below a place. -/
theorem Marks.lt {w : World} {base : Nat} {v : Value} (h : Marks w base v) : ∀ ds, v = encD ds → ∀ d ∈ ds, d < w.heap.size := by
  obtain ⟨ds, rfl, hn, h⟩ := h
  intro ds' he d hd
  have : ds' = ds := by have := congrArg dfOf he; rw [dfOf_encD, dfOf_encD] at this; exact this.symm
  subst this
  exact lt_of_blk (h d hd).2
theorem Marks.leave {w : World} {base : Nat} {v : Value} {K : World → Prop} (h : Marks w base v) (k : ∀ w', Fm (fun i => base ≤ i ∧ w.heap[i]? = some (.deferred (some []))) w w' → K w') : leaveC v w K := by
  obtain ⟨ds, rfl, hn, h⟩ := h
  unfold leaveC
  rw [dfOf_encD]
  cases ds with
  | nil => exact k w (Fm.refl _ _)
  | cons D ds => exact ⟨fun d hd => (h d hd).2, hn, k _ ((turnD_fm (D :: ds) w).mono fun i _ hi => h i hi)⟩
/-- What a round that goes on keeps: all that there was, and all cells, but the blocks of S. -/
def KpC (B : Nat) (S : Nat → Prop) (W W' : World) : Prop := (∀ i o, ¬ S i → (i < B ∨ o.isCells = true ∨ o.isWalk = true) → W.heap[i]? = some o → W'.heap[i]? = some o) ∧ W.heap.size ≤ W'.heap.size
theorem KpC.t {Bd : Nat} {S : Nat → Prop} (A B C : World) (h : KpC Bd S A B) (k : KpC Bd S B C) : KpC Bd S A C :=
  ⟨fun i o hi hb ho => k.1 i o hi hb (h.1 i o hi hb ho), Nat.le_trans h.2 k.2⟩
theorem KpC.b {S : Nat → Prop} {B : Nat} (W : World) (l : Nat) (o o' : Obj) (hl : B ≤ l) (ho : W.heap[l]? = some o) (hc : o.isCells = false) (hw : o.isWalk = false) : KpC B S W (W.putObj l o') := by
  refine ⟨fun i x _ hb hx => ?_, by simp [World.putObj]⟩
  rw [World.putObj_heap_other (k := i) (r := l) (by rintro rfl; rw [ho] at hx; cases hx; rcases hb with h | h | h; omega; rw [hc] at h; cases h; rw [hw] at h; cases h)]; exact hx
theorem KpC.fm {B : Nat} {S S' : Nat → Prop} {W W' : World} (h : Fm S' W W') (hS : ∀ i, i < W.heap.size → S' i → S i) : KpC B S W W' :=
  ⟨fun i _ hi _ ho => h.keep ho fun hs => hi (hS i (lt_of_blk ho) hs), h.size⟩
theorem KpC.cells {B : Nat} {S : Nat → Prop} {W W' : World} (h : KpC B S W W') {i : Nat} {c : Array Value} {t : TypeId} {f : Nat × Nat} (hi : ¬ S i) (ho : W.heap[i]? = some (.cells c t f)) : W'.heap[i]? = some (.cells c t f) := h.1 i _ hi (.inr (.inl rfl)) ho
theorem Fm.row_below {S : Nat → Prop} {w W W' : World} {row : Option Nat} (h : Fm S w W) (hg : W.grownBy W' row) {B : Nat} (hr : ∀ r, row = some r → B ≤ r ∧ ∃ o : Obj, W.heap[r]? = some o ∧ o.isCells = false) (hB : w.heap.size ≤ B) : Fm S w W' :=
  h.trans' (row_fm hg) fun i hi e => by have := (hr i e).1; omega
end Go.Proofs.Ytlhgibiffekpfaa.VC
