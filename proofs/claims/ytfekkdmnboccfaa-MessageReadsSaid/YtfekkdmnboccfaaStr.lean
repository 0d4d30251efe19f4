/- Bytes to strings.  Conditions: none (a general text, over any program). -/
import Derived.Test.YtfekkdmnboccfaaLib
import Derived.Laws.BytesArg
import Derived.Laws.OwnMore
import Derived.Laws.DeepStrings4
namespace Go.Proofs.Ytfekkdmnboccfaa.VC
set_option linter.unusedSimpArgs false
set_option linter.unusedVariables false
open Go Go.RowKit
theorem int_of_row {P : Program} {t : TypeId} {k : IntKind} (h : (row P t).k = .int k) : P.underlying t = some (.int k) := by
  obtain ⟨i, d, hi, hd, hr⟩ := row_spec (P := P) (t := t) (by rw [h]; simp)
  rw [hr] at h
  cases d <;> simp [kOf] at h
  subst h
  exact hd
theorem string_of_row {P : Program} {t : TypeId} (h : (row P t).k = .string) : P.underlying t = some .string := by
  obtain ⟨i, d, hi, hd, hr⟩ := row_spec (P := P) (t := t) (by rw [h]; simp)
  rw [hr] at h
  cases d <;> simp [kOf] at h
  exact hd
theorem conv_bytes {P : Program} {w : World} {s d e : TypeId} {p : Option Addr} {n c : Nat} {ys : List Int} {K : Value → World → Prop} (hs : (row P s).k = .slice e) (he : (row P e).k = .int .u8) (hd : (row P d).k = .string) (hn : n = ys.length)
    (h : ∀ (j : Nat) (y : Int), ys[j]? = some y → ∃ ad, p = some ad ∧ w.cell? (ad.add j) = some (.int .u8 y)) (k : K (.string (strOfNums ys)) w) : runs P (convert s d (.slice p n c)) w K := by
  subst hn
  have hs' := slice_of_row hs
  have he' := int_of_row he
  have hd' := string_of_row hd
  refine ⟨_, _, ?_, k⟩
  rw [run_convert_bytes_string w s d e _ _ c hs' he' hd']
  cases p with
  | none =>
    have : ys = [] := by
      cases ys with
      | nil => rfl
      | cons y ys => obtain ⟨ad, e, _⟩ := h 0 y rfl; cases e
    subst this
    simp [Conv.bytesToString]
    rfl
  | some a =>
    have hl : (loadCells a ys.length).run P w = .ok (ys.map (Value.int .u8)).toArray w := by
      have := run_loadCells_list (P := P) w a (ys.map (Value.int .u8)) (fun j v hj => by
        rw [List.getElem?_map, Option.map_eq_some_iff] at hj
        obtain ⟨y, hy, rfl⟩ := hj
        obtain ⟨ad, e, hc⟩ := h j y hy
        cases e
        exact hc)
      simpa using this
    rw [run_bytesToString w _ _ c ys hl, foldl_push_bytes]
    simp [strOfNums, ByteArray.empty, ByteArray.emptyWithCapacity]
    rfl
def Byt (y : Int) : Prop := 0 ≤ y ∧ y < 256
theorem strOfNums_inj {xs ys : List Int} (hx : ∀ y ∈ xs, 0 ≤ y ∧ y < 256) (hy : ∀ y ∈ ys, 0 ≤ y ∧ y < 256) : strOfNums xs = strOfNums ys ↔ xs = ys := by
  constructor
  · intro h
    have h1 : (xs.map fun n => UInt8.ofNat n.toNat) = ys.map fun n => UInt8.ofNat n.toNat := by
      have := congrArg (fun b : ByteArray => b.data.toList) h
      simpa [strOfNums] using this
    have key : ∀ (xs ys : List Int), (∀ y ∈ xs, 0 ≤ y ∧ y < 256) → (∀ y ∈ ys, 0 ≤ y ∧ y < 256) → (xs.map fun n => UInt8.ofNat n.toNat) = (ys.map fun n => UInt8.ofNat n.toNat) → xs = ys := by
      intro xs
      induction xs with
      | nil => intro ys _ _ h; cases ys <;> simp at h ⊢
      | cons x xs ih =>
        intro ys hx hy h
        cases ys with
        | nil => simp at h
        | cons y ys =>
          simp only [List.map_cons, List.cons.injEq] at h
          have h0 := hx x (by simp)
          have h1 := hy y (by simp)
          have h2 := congrArg UInt8.toNat h.1
          simp only [UInt8.toNat_ofNat'] at h2
          rw [ih ys (fun z hz => hx z (by simp [hz])) (fun z hz => hy z (by simp [hz])) h.2]
          congr 1
          omega
    exact key xs ys hx hy h1
  · intro h; rw [h]
/-- A slice of one element that is more than one cell. -/
theorem build_S {P : Program} {w : World} {t e : TypeId} {k : K} {size by_ : Nat} {z : Value} {cs : List Value} {KK : Value → World → Prop} (ht : (row P t).k = .slice e) (he : row P e = ⟨k, size, by_, some z⟩) (hzs : z.cells.size = size)
    (hsz : 0 < size) (hbig : size ≤ 16777216) (hcs : cs.length = size)
    (kk : ∀ w', w'.heap[w.heap.size]? = some (.cells cs.toArray e (0, 0)) → w'.heap.size = w.heap.size + 1 → Fm none' w w' → KK (.slice (some ⟨w.heap.size, 0, none⟩) 1 1) w') : runs P (Instr.buildSlice t 1 #[(0, .agg cs.toArray)]) w KK := by
  obtain ⟨i, hi, hz, hsi, hbt⟩ := info_of_row he
  have hu := slice_of_row ht
  have hbuild : (Instr.buildSlice t 1 #[(0, .agg cs.toArray)]).run P w = .ok (.slice (some ⟨w.heap.size, 0, none⟩) 1 1) (w.alloc (.cells cs.toArray e)) := by
    have hf : ∀ C : Array Value, C.size = size → Instr.fill (fun i => some (i * size, size)) C [(0, .agg cs.toArray)] = some cs.toArray := by
      intro C hC
      have hc : (Value.agg cs.toArray).cells = cs.toArray := rfl
      have hfd : cs.toArray.zipIdx.foldl (fun acc (p : Value × Nat) => acc.setIfInBounds (0 + p.2) p.1) C = cs.toArray := by
        apply Array.ext'
        rw [← Array.foldl_toList]
        have : cs.toArray.zipIdx.toList = cs.zipIdx 0 := by simp
        rw [this, fold_set cs 0 C (by omega)]
        rw [List.drop_eq_nil_of_le (by simp; omega)]
        simp
      simp only [Instr.fill, hc, Nat.zero_mul]
      rw [if_neg (by simp; omega), hfd]
    have hr : ((Array.range (1 * size)).map (z.cells[· % z.cells.size]!)).size = size := by simp
    simp only [Instr.buildSlice, Sem.run_bind, run_underlying hu, run_size hi, hsi, Result.andThen_ok]
    rw [if_neg (by omega)]
    simp only [Sem.run_pure, Result.andThen_ok, Nat.one_mul, if_neg (show ¬ size = 0 by omega), Sem.run_bind, run_zero hi hz]
    rw [Nat.one_mul] at hr
    simp only [Sem.run_map, run_zero hi hz, Result.andThen_ok, hf _ hr, newRow, Sem.run_bind, Sem.run_pure]
    rfl
  exact ⟨_, _, hbuild, kk _ (by simpa using heap_alloc_new w (.cells cs.toArray e)) (by simp) (Fm.alloc w _)⟩
theorem fill_L : ∀ (xs : List Value) (k : Nat) (C : Array Value), (∀ x ∈ xs, x.oneCell' = true) → k + xs.length ≤ C.size → ∃ C' : Array Value, Instr.fill (fun i => some (i * 1, 1)) C ((xs.zipIdx k).map fun p => (p.2, p.1)) = some C' ∧ C'.toList = C.toList.take k ++ xs ++ C.toList.drop (k + xs.length) := by
  intro xs
  induction xs with
  | nil => intro k C _ _; exact ⟨C, rfl, by simp⟩
  | cons x xs ih =>
    intro k C h1 h2
    simp only [List.length_cons] at h2
    have hx : x.cells = #[x] := by have := h1 x (by simp); cases x <;> simp [Value.oneCell'] at this <;> rfl
    obtain ⟨C', h3, h4⟩ := ih (k + 1) (C.setIfInBounds k x) (fun y hy => h1 y (by simp [hy])) (by simp; omega)
    refine ⟨C', ?_, ?_⟩
    · simp only [List.zipIdx_cons, List.map_cons, Instr.fill, hx]
      rw [if_neg (by simp; omega)]
      simpa using h3
    · rw [h4, Array.toList_setIfInBounds]
      have hi : k < C.toList.length := by simp; omega
      rw [List.take_set, List.take_add_one, List.getElem?_eq_getElem hi, List.set_append_right _ _ (by simp; omega), List.drop_set_of_lt (by omega)]
      simp [Nat.min_eq_left (show k ≤ C.size by omega), show k + 1 + xs.length = k + (xs.length + 1) by omega]
/-- A slice written out. -/
theorem build_L {P : Program} {w : World} {t e : TypeId} {k : K} {by_ : Nat} {z : Value} {xs : List Value} {n : Nat} {parts : Array (Nat × Value)} {KK : Value → World → Prop} (ht : (row P t).k = .slice e) (he : row P e = ⟨k, 1, by_, some z⟩) (hzs : z.cells.size = 1)
    (h1 : ∀ x ∈ xs, x.oneCell' = true) (hn : xs.length = n) (h0 : 0 < n) (hbig : n ≤ 16777216) (hp : parts.toList = (xs.zipIdx 0).map fun p => (p.2, p.1))
    (kk : ∀ w', w'.heap[w.heap.size]? = some (.cells xs.toArray e (0, 0)) → w'.heap.size = w.heap.size + 1 → Fm none' w w' → KK (.slice (some ⟨w.heap.size, 0, none⟩) n n) w') : runs P (Instr.buildSlice t n parts) w KK := by
  obtain ⟨i, hi, hz, hsi, hbt⟩ := info_of_row he
  have hu := slice_of_row ht
  have hbuild : (Instr.buildSlice t n parts).run P w = .ok (.slice (some ⟨w.heap.size, 0, none⟩) n n) (w.alloc (.cells xs.toArray e)) := by
    have hsz : ((Array.range n).map (z.cells[· % z.cells.size]!)).size = n := by simp
    obtain ⟨C', h3, h4⟩ := fill_L xs 0 ((Array.range n).map (z.cells[· % z.cells.size]!)) h1 (by omega)
    have hC : C' = xs.toArray := by
      apply Array.ext'
      rw [h4, List.drop_eq_nil_of_le (by simp; omega)]; simp
    rw [← hp, hC] at h3
    simp only [Nat.mul_one] at h3
    simp only [Instr.buildSlice, Sem.run_bind, run_underlying hu, run_size hi, hsi, Result.andThen_ok]
    rw [if_neg (by omega)]
    simp only [Sem.run_pure, Result.andThen_ok, Nat.mul_one, if_neg (show ¬ n = 0 by omega), Sem.run_bind, run_zero hi hz]
    simp only [Sem.run_map, run_zero hi hz, Result.andThen_ok, h3, newRow, Sem.run_bind, Sem.run_pure, Nat.mul_one]
    rfl
  exact ⟨_, _, hbuild, kk _ (by simpa using heap_alloc_new w (.cells xs.toArray e)) (by simp) (Fm.alloc w _)⟩
theorem own_cap {w : World} {base : Nat} {e : TypeId} {size n c : Nat} {p : Option Addr} {xs : List Value} (h : w.ownsRow base e size (.slice p n c) n xs) : n ≤ c := by
  rcases h.2 with ⟨h, rfl⟩ | ⟨g, cap, cur, hv, _, _, hc, _⟩
  · exact Nat.zero_le _
  · cases hv; exact hc
theorem append_none {P : Program} {w : World} {t e : TypeId} {k : K} {by_ : Nat} {z : Value} {n c c' : Nat} {b : Option Addr} {KK : Value → World → Prop} (ht : (row P t).k = .slice e) (he : row P e = ⟨k, 1, by_, some z⟩) (hnc : n ≤ c) (kk : KK (.slice b n c) w) :
    runs P (Builtin.append_ #[t, t] t #[.slice b n c, .slice none 0 c']) w KK := by
  obtain ⟨i, hi, hz, hsi, hbt⟩ := info_of_row he
  have hu := slice_of_row ht
  refine ⟨_, _, ?_, kk⟩
  cases b with
  | none => simp [Builtin.append_, run_underlying hu, run_size hi, hsi, Builtin.lenOf, hnc, Builtin.firstCells]
  | some a => simp [Builtin.append_, run_underlying hu, run_size hi, hsi, Builtin.lenOf, hnc, Builtin.firstCells, storeCells]
/-- append of bytes that may be read, nil or not. -/
theorem append_b {P : Program} {w : World} {t e : TypeId} {by_ : Nat} {z s : Value} {n base m c : Nat} {xs : List Value} {ys : List Int} {p : Option Addr} {KK : Value → World → Prop} (ht : (row P t).k = .slice e) (he : row P e = ⟨.int .u8, 1, by_, some z⟩) (hzs : z.cells.size = 1)
    (hown : w.ownsRow base e 1 s n xs) (hm : m = ys.length) (h : ∀ (j : Nat) (y : Int), ys[j]? = some y → ∃ ad, p = some ad ∧ w.cell? (ad.add j) = some (.int .u8 y)) (hb : base ≤ w.heap.size) (h63 : n + m ≤ maxLen) (hby : (n + m) * by_ ≤ 140737488355328)
    (kk : ∀ v' w', w'.ownsRow base e 1 v' (n + m) (xs ++ ys.map (Value.int .u8)) → Fm (fun i => s.ownBlock = some i) w w' → (v'.ownBlock = s.ownBlock ∨ v'.ownBlock = some w.heap.size) → KK v' w') :
    runs P (Builtin.append_ #[t, t] t #[s, .slice p m c]) w KK := by
  subst hm
  cases p with
  | none =>
    have : ys = [] := by
      cases ys with
      | nil => rfl
      | cons y ys => obtain ⟨_, e, _⟩ := h 0 y rfl; cases e
    subst this
    obtain ⟨b, cb, rfl, -⟩ := own_read hown
    refine append_none ht he (own_cap hown) (kk _ _ ?_ (Fm.refl _ _) (.inl rfl))
    simpa using hown
  | some a =>
    refine append_at (news := ys.map (Value.int .u8)) ht he hzs hown (by simp) (fun j u hj => ?_) (by simp [Value.oneCell']) hb h63 hby kk
    rw [List.getElem?_map, Option.map_eq_some_iff] at hj
    obtain ⟨y, hy, rfl⟩ := hj
    obtain ⟨ad, e, hc⟩ := h j y hy
    cases e; exact hc
/-- A byte of a text. -/
theorem index_str {P : Program} {w : World} {t : TypeId} {ys : List Int} {j : Nat} {y : Int} {k : IntKind} {K : Value → World → Prop} (ht : (row P t).k = .string) (hr : ∀ y ∈ ys, 0 ≤ y ∧ y < 256) (h : ys[j]? = some y) (kk : K (.int .u8 y) w) :
    runs P (Instr.index t (.string (strOfNums ys)) (.int k j)) w K := by
  have hu := string_of_row ht
  have hy := hr y (List.mem_of_getElem? h)
  have hj := (List.getElem?_eq_some_iff.1 h).1
  have hs : (strOfNums ys)[j]? = some (UInt8.ofNat y.toNat) := by
    have hsz : j < (strOfNums ys).size := by rw [strOfNums_size]; exact hj
    rw [getElem?_pos (strOfNums ys) j hsz]
    congr 1
    show (strOfNums ys).data[j] = _
    have : (strOfNums ys).data[j]? = some (UInt8.ofNat y.toNat) := by
      unfold strOfNums
      rw [List.getElem?_toArray, List.getElem?_map, h]; rfl
    rw [Array.getElem?_eq_getElem (by rw [ByteArray.size] at hsz; exact hsz)] at this
    exact Option.some.inj this
  refine ⟨_, _, ?_, kk⟩
  unfold Instr.index
  simp only [asIntOf, Sem.run_bind, Sem.run_pure, Result.andThen_ok, run_underlying hu, Int.natCast_nonneg, if_true, Int.toNat_natCast, hs]
  congr 2
  simp only [UInt8.toNat_ofNat']
  omega
/-- A slice of zeros. -/
theorem make_b {P : Program} {w : World} {t e : TypeId} {by_ n base : Nat} {kl kc : IntKind} {K : Value → World → Prop} (ht : (row P t).k = .slice e) (he : row P e = ⟨.int .u8, 1, by_, some (.int .u8 0)⟩) (hb : by_ * n ≤ 281474976710656) (h63 : n ≤ maxLen) (hbase : base ≤ w.heap.size)
    (kk : ∀ w', w'.ownsRow base e 1 (.slice (some ⟨w.heap.size, 0, none⟩) n n) n ((List.replicate n (0 : Int)).map (Value.int .u8)) → Fm none' w w' → K (.slice (some ⟨w.heap.size, 0, none⟩) n n) w') : runs P (Instr.makeSlice t (.int kl n) (.int kc n)) w K := by
  obtain ⟨i, hi, hz, hsz, hbt⟩ := info_of_row he
  have hu := slice_of_row ht
  obtain ⟨w', hr, ho, hg⟩ := run_make_full (P := P) w base t e i _ 1 hu hi hz hsz kl kc n (by rw [hbt]; exact hb) h63 hbase
  refine ⟨_, _, hr, kk w' ?_ ((Fm.grown hg).mono fun _ _ h => by cases h)⟩
  have : (madeCells (Value.int .u8 0).cells (n * 1)).toList = (List.replicate n (0 : Int)).map (Value.int .u8) := by
    have hc : (Value.int .u8 0).cells = #[.int .u8 0] := rfl
    simp only [madeCells, hc, Nat.mul_one]
    refine List.ext_getElem? fun j => ?_
    by_cases hj : j < n
    · simp [hj, Nat.mod_one]
    · simp [hj]
  rw [this] at ho
  exact ho
theorem stC_at_from {b : Nat} {t : TypeId} {i : Nat} : ∀ (vs : List Value) (k : Nat) (w : World) (c : Array Value), w.heap[b]? = some (.cells c t (0, 0)) → i + k + vs.length ≤ c.size → (∀ v ∈ vs, v.oneCell' = true) →
    canWrite w ⟨b, i, none⟩ k vs ∧ ∃ c' : Array Value, (written w ⟨b, i, none⟩ k vs).heap[b]? = some (.cells c' t (0, 0)) ∧ c'.toList = c.toList.take (i + k) ++ vs ++ c.toList.drop (i + k + vs.length) ∧ Fm (fun j => j = b) w (written w ⟨b, i, none⟩ k vs) := by
  intro vs
  induction vs with
  | nil =>
    intro k w c h hi _
    exact ⟨trivial, c, h, by simp, Fm.refl _ _⟩
  | cons v vs ih =>
    intro k w c h hi hv
    simp only [List.length_cons] at hi
    have hs : (w.setCell ⟨b, i + k, none⟩ v).heap[b]? = some (.cells (c.setIfInBounds (i + k) v) t (0, 0)) := setOf h
    obtain ⟨h1, c', h2, h3, h4⟩ := ih (k + 1) (w.setCell ⟨b, i + k, none⟩ v) (c.setIfInBounds (i + k) v) hs (by simp; omega) (fun x hx => hv x (List.mem_cons_of_mem _ hx))
    have he : (⟨b, i, none⟩ : Addr).add k = ⟨b, i + k, none⟩ := addr_add b i k
    refine ⟨⟨⟨c[i + k]'(by omega), ?_⟩, ?_, hv v List.mem_cons_self, ?_⟩, c', ?_, ?_, ?_⟩
    · rw [he]; exact cellOf h (by simp)
    · rw [he]; exact freeOf h
    · rw [he]; exact h1
    · simp only [written, he]; exact h2
    · rw [h3, Array.toList_setIfInBounds]
      have hl : i + k < c.toList.length := by simp; omega
      rw [← Nat.add_assoc, List.take_set, List.take_add_one, List.getElem?_eq_getElem hl, List.set_append_right _ _ (by simp; omega), List.drop_set_of_lt (by omega)]
      simp [Nat.min_eq_left (show i + k ≤ c.size by omega), show i + k + 1 + vs.length = i + k + (vs.length + 1) by omega]
    · simp only [written, he]
      exact (Fm.setCell w ⟨b, i + k, none⟩ v).trans h4
/-- Some cells of a known block are written. -/
theorem stC_at {w : World} {b i : Nat} {c : Array Value} {t : TypeId} {vs : List Value} {K : World → Prop} (h : w.heap[b]? = some (.cells c t (0, 0))) (hs : i + vs.length ≤ c.size) (hv : ∀ v ∈ vs, v.oneCell' = true)
    (k : ∀ w', w'.heap[b]? = some (.cells (c.toList.take i ++ vs ++ c.toList.drop (i + vs.length)).toArray t (0, 0)) → Fm (fun j => j = b) w w' → K w') : stC w ⟨b, i, none⟩ vs K := by
  obtain ⟨h1, c', h2, h3, h4⟩ := stC_at_from vs 0 w c h (by omega) hv
  refine ⟨h1, fun w' hw' => ?_⟩
  subst hw'
  refine k _ ?_ h4
  rw [h2]
  congr 2
  apply Array.ext'
  rw [h3]; simp
theorem min3 {P : Program} {w : World} {ts : Array TypeId} {t : TypeId} {k : IntKind} {a b c : Int} {K : Value → World → Prop} (kk : K (.int k (min (min a b) c)) w) : runs P (Builtin.min_ ts t #[.int k a, .int k b, .int k c]) w K := by
  have h : ∀ a b : Int, (if b < a then b else a) = min a b := fun a b => by rw [Int.min_def]; split <;> split <;> omega
  refine ⟨_, _, ?_, kk⟩
  simp [Builtin.min_, Builtin.min2, h]
theorem max3 {P : Program} {w : World} {ts : Array TypeId} {t : TypeId} {k : IntKind} {a b c : Int} {K : Value → World → Prop} (kk : K (.int k (max (max a b) c)) w) : runs P (Builtin.max_ ts t #[.int k a, .int k b, .int k c]) w K := by
  have h : ∀ a b : Int, (if a < b then b else a) = max a b := fun a b => by rw [Int.max_def]; split <;> split <;> omega
  refine ⟨_, _, ?_, kk⟩
  simp [Builtin.max_, Builtin.max2, h]
theorem extract_str (ys : List Int) (l h : Nat) : (strOfNums ys).extract l h = strOfNums ((ys.take h).drop l) := by
  unfold strOfNums
  apply ByteArray.ext
  rw [ByteArray.data_extract]
  apply Array.ext'
  simp [List.extract_eq_take_drop, List.map_drop, List.map_take, List.drop_take]
/-- A text, cut. -/
theorem slice_str {P : Program} {w : World} {t : TypeId} {ys : List Int} {l h : Nat} {kl kh : IntKind} {K : Value → World → Prop} (ht : (row P t).k = .string) (hl : l ≤ h) (hh : h ≤ ys.length) (k : K (.string (strOfNums ((ys.take h).drop l))) w) :
    runs P (Instr.sliceAt t (.string (strOfNums ys)) (some (.int kl (l : Int))) (some (.int kh (h : Int))) none) w K := by
  have hu := string_of_row ht
  refine ⟨_, _, ?_, k⟩
  rw [run_sliceAt_string w t _ _ _ _ hu, run_slice_string_if w t _ _ _ _ _ hu, if_pos ⟨by omega, by rw [strOfNums_size]; omega⟩, if_pos ⟨by omega, by omega⟩, Int.toNat_natCast, Int.toNat_natCast, extract_str]
end Go.Proofs.Ytfekkdmnboccfaa.VC
