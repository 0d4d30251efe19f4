/- What NetBytes needs, part 6 of 12: Str Sam27 Law Siz D0 RTx D1 RRt RBi D2 RRd D3 RMs Cuts Unl.  Conditions: as each part says. -/
import Derived.Laws.BytesArg
import Derived.Laws.OwnMore
import Derived.Laws.DeepStrings4
import Derived.Test.YtipikchkbmgloaaDoorNetBytesA5
/- Bytes to strings.  Conditions: none (a general text, over any program). -/
namespace Go.Proofs.YtipikchkbmgloaaDoor.VC
set_option linter.unusedSimpArgs false
set_option linter.unusedVariables false
open Go Go.RowKit
theorem string_of_row {P : Program} {t : TypeId} (h : (row P t).k = .string) : P.underlying t = some .string := by
  obtain ⟨i, d, hi, hd, hr⟩ := row_spec (P := P) (t := t) (by rw [h]; simp)
  rw [hr] at h
  cases d <;> simp [kOf] at h
  exact hd
theorem conv_bytes {P : Program} {w : World} {s d e : TypeId} {p : Option Addr} {n c : Nat} {ys : List Int} {K : Value → World → Prop} (hs : (row P s).k = .slice e) (he : (row P e).k = .int .u8) (hd : (row P d).k = .string) (hn : n = ys.length)
    (h : ∀ (j : Nat) (y : Int), ys[j]? = some y → ∃ ad, p = some ad ∧ w.cell? (ad.add j) = some (.int .u8 y)) (k : K (.string (strOfNums ys)) w) : runs P (convert s d (.slice p n c)) w K := by
  subst hn
  have hs' := slice_of_row hs
  have he' := int_of_row he
  have hd' := string_of_row hd
  refine ⟨_, _, ?_, k⟩
  rw [run_convert_bytes_string w s d e _ _ c hs' he' hd']
  cases p with
  | none =>
    have : ys = [] := by
      cases ys with
      | nil => rfl
      | cons y ys => obtain ⟨ad, e, _⟩ := h 0 y rfl; cases e
    subst this
    simp [Conv.bytesToString]
    rfl
  | some a =>
    have hl : (loadCells a ys.length).run P w = .ok (ys.map (Value.int .u8)).toArray w := by
      have := run_loadCells_list (P := P) w a (ys.map (Value.int .u8)) (fun j v hj => by
        rw [List.getElem?_map, Option.map_eq_some_iff] at hj
        obtain ⟨y, hy, rfl⟩ := hj
        obtain ⟨ad, e, hc⟩ := h j y hy
        cases e
        exact hc)
      simpa using this
    rw [run_bytesToString w _ _ c ys hl, foldl_push_bytes]
    simp [strOfNums, ByteArray.empty, ByteArray.emptyWithCapacity]
    rfl
def Byt (y : Int) : Prop := 0 ≤ y ∧ y < 256
theorem strOfNums_inj {xs ys : List Int} (hx : ∀ y ∈ xs, 0 ≤ y ∧ y < 256) (hy : ∀ y ∈ ys, 0 ≤ y ∧ y < 256) : strOfNums xs = strOfNums ys ↔ xs = ys := by
  constructor
  · intro h
    have h1 : (xs.map fun n => UInt8.ofNat n.toNat) = ys.map fun n => UInt8.ofNat n.toNat := by
      have := congrArg (fun b : ByteArray => b.data.toList) h
      simpa [strOfNums] using this
    have key : ∀ (xs ys : List Int), (∀ y ∈ xs, 0 ≤ y ∧ y < 256) → (∀ y ∈ ys, 0 ≤ y ∧ y < 256) → (xs.map fun n => UInt8.ofNat n.toNat) = (ys.map fun n => UInt8.ofNat n.toNat) → xs = ys := by
      intro xs
      induction xs with
      | nil => intro ys _ _ h; cases ys <;> simp at h ⊢
      | cons x xs ih =>
        intro ys hx hy h
        cases ys with
        | nil => simp at h
        | cons y ys =>
          simp only [List.map_cons, List.cons.injEq] at h
          have h0 := hx x (by simp)
          have h1 := hy y (by simp)
          have h2 := congrArg UInt8.toNat h.1
          simp only [UInt8.toNat_ofNat'] at h2
          rw [ih ys (fun z hz => hx z (by simp [hz])) (fun z hz => hy z (by simp [hz])) h.2]
          congr 1
          omega
    exact key xs ys hx hy h1
  · intro h; rw [h]
/-- A slice of one element that is more than one cell. -/
theorem build_S {P : Program} {w : World} {t e : TypeId} {k : K} {size by_ : Nat} {z : Value} {cs : List Value} {KK : Value → World → Prop} (ht : (row P t).k = .slice e) (he : row P e = ⟨k, size, by_, some z⟩) (hzs : z.cells.size = size)
    (hsz : 0 < size) (hbig : size ≤ 16777216) (hcs : cs.length = size)
    (kk : ∀ w', w'.heap[w.heap.size]? = some (.cells cs.toArray e (0, 0)) → w'.heap.size = w.heap.size + 1 → Fm none' w w' → KK (.slice (some ⟨w.heap.size, 0, none⟩) 1 1) w') : runs P (Instr.buildSlice t 1 #[(0, .agg cs.toArray)]) w KK := by
  obtain ⟨i, hi, hz, hsi, hbt⟩ := info_of_row he
  have hu := slice_of_row ht
  have hbuild : (Instr.buildSlice t 1 #[(0, .agg cs.toArray)]).run P w = .ok (.slice (some ⟨w.heap.size, 0, none⟩) 1 1) (w.alloc (.cells cs.toArray e)) := by
    have hf : ∀ C : Array Value, C.size = size → Instr.fill (fun i => some (i * size, size)) C [(0, .agg cs.toArray)] = some cs.toArray := by
      intro C hC
      have hc : (Value.agg cs.toArray).cells = cs.toArray := rfl
      have hfd : cs.toArray.zipIdx.foldl (fun acc (p : Value × Nat) => acc.setIfInBounds (0 + p.2) p.1) C = cs.toArray := by
        apply Array.ext'
        rw [← Array.foldl_toList]
        have : cs.toArray.zipIdx.toList = cs.zipIdx 0 := by simp
        rw [this, fold_set cs 0 C (by omega)]
        rw [List.drop_eq_nil_of_le (by simp; omega)]
        simp
      simp only [Instr.fill, hc, Nat.zero_mul]
      rw [if_neg (by simp; omega), hfd]
    have hr : ((Array.range (1 * size)).map (z.cells[· % z.cells.size]!)).size = size := by simp
    simp only [Instr.buildSlice, Sem.run_bind, run_underlying hu, run_size hi, hsi, Result.andThen_ok]
    rw [if_neg (by omega)]
    simp only [Sem.run_pure, Result.andThen_ok, Nat.one_mul, if_neg (show ¬ size = 0 by omega), Sem.run_bind, run_zero hi hz]
    rw [Nat.one_mul] at hr
    simp only [Sem.run_map, run_zero hi hz, Result.andThen_ok, hf _ hr, newRow, Sem.run_bind, Sem.run_pure]
    rfl
  exact ⟨_, _, hbuild, kk _ (by simpa using heap_alloc_new w (.cells cs.toArray e)) (by simp) (Fm.alloc w _)⟩
theorem fill_L : ∀ (xs : List Value) (k : Nat) (C : Array Value), (∀ x ∈ xs, x.oneCell' = true) → k + xs.length ≤ C.size → ∃ C' : Array Value, Instr.fill (fun i => some (i * 1, 1)) C ((xs.zipIdx k).map fun p => (p.2, p.1)) = some C' ∧ C'.toList = C.toList.take k ++ xs ++ C.toList.drop (k + xs.length) := by
  intro xs
  induction xs with
  | nil => intro k C _ _; exact ⟨C, rfl, by simp⟩
  | cons x xs ih =>
    intro k C h1 h2
    simp only [List.length_cons] at h2
    have hx : x.cells = #[x] := by have := h1 x (by simp); cases x <;> simp [Value.oneCell'] at this <;> rfl
    obtain ⟨C', h3, h4⟩ := ih (k + 1) (C.setIfInBounds k x) (fun y hy => h1 y (by simp [hy])) (by simp; omega)
    refine ⟨C', ?_, ?_⟩
    · simp only [List.zipIdx_cons, List.map_cons, Instr.fill, hx]
      rw [if_neg (by simp; omega)]
      simpa using h3
    · rw [h4, Array.toList_setIfInBounds]
      have hi : k < C.toList.length := by simp; omega
      rw [List.take_set, List.take_add_one, List.getElem?_eq_getElem hi, List.set_append_right _ _ (by simp; omega), List.drop_set_of_lt (by omega)]
      simp [Nat.min_eq_left (show k ≤ C.size by omega), show k + 1 + xs.length = k + (xs.length + 1) by omega]
/-- A slice written out. -/
theorem build_L {P : Program} {w : World} {t e : TypeId} {k : K} {by_ : Nat} {z : Value} {xs : List Value} {n : Nat} {parts : Array (Nat × Value)} {KK : Value → World → Prop} (ht : (row P t).k = .slice e) (he : row P e = ⟨k, 1, by_, some z⟩) (hzs : z.cells.size = 1)
    (h1 : ∀ x ∈ xs, x.oneCell' = true) (hn : xs.length = n) (h0 : 0 < n) (hbig : n ≤ 16777216) (hp : parts.toList = (xs.zipIdx 0).map fun p => (p.2, p.1))
    (kk : ∀ w', w'.heap[w.heap.size]? = some (.cells xs.toArray e (0, 0)) → w'.heap.size = w.heap.size + 1 → Fm none' w w' → KK (.slice (some ⟨w.heap.size, 0, none⟩) n n) w') : runs P (Instr.buildSlice t n parts) w KK := by
  obtain ⟨i, hi, hz, hsi, hbt⟩ := info_of_row he
  have hu := slice_of_row ht
  have hbuild : (Instr.buildSlice t n parts).run P w = .ok (.slice (some ⟨w.heap.size, 0, none⟩) n n) (w.alloc (.cells xs.toArray e)) := by
    have hsz : ((Array.range n).map (z.cells[· % z.cells.size]!)).size = n := by simp
    obtain ⟨C', h3, h4⟩ := fill_L xs 0 ((Array.range n).map (z.cells[· % z.cells.size]!)) h1 (by omega)
    have hC : C' = xs.toArray := by
      apply Array.ext'
      rw [h4, List.drop_eq_nil_of_le (by simp; omega)]; simp
    rw [← hp, hC] at h3
    simp only [Nat.mul_one] at h3
    simp only [Instr.buildSlice, Sem.run_bind, run_underlying hu, run_size hi, hsi, Result.andThen_ok]
    rw [if_neg (by omega)]
    simp only [Sem.run_pure, Result.andThen_ok, Nat.mul_one, if_neg (show ¬ n = 0 by omega), Sem.run_bind, run_zero hi hz]
    simp only [Sem.run_map, run_zero hi hz, Result.andThen_ok, h3, newRow, Sem.run_bind, Sem.run_pure, Nat.mul_one]
    rfl
  exact ⟨_, _, hbuild, kk _ (by simpa using heap_alloc_new w (.cells xs.toArray e)) (by simp) (Fm.alloc w _)⟩
theorem own_cap {w : World} {base : Nat} {e : TypeId} {size n c : Nat} {p : Option Addr} {xs : List Value} (h : w.ownsRow base e size (.slice p n c) n xs) : n ≤ c := by
  rcases h.2 with ⟨h, rfl⟩ | ⟨g, cap, cur, hv, _, _, hc, _⟩
  · exact Nat.zero_le _
  · cases hv; exact hc
theorem append_none {P : Program} {w : World} {t e : TypeId} {k : K} {by_ : Nat} {z : Value} {n c c' : Nat} {b : Option Addr} {KK : Value → World → Prop} (ht : (row P t).k = .slice e) (he : row P e = ⟨k, 1, by_, some z⟩) (hnc : n ≤ c) (kk : KK (.slice b n c) w) :
    runs P (Builtin.append_ #[t, t] t #[.slice b n c, .slice none 0 c']) w KK := by
  obtain ⟨i, hi, hz, hsi, hbt⟩ := info_of_row he
  have hu := slice_of_row ht
  refine ⟨_, _, ?_, kk⟩
  cases b with
  | none => simp [Builtin.append_, run_underlying hu, run_size hi, hsi, Builtin.lenOf, hnc, Builtin.firstCells]
  | some a => simp [Builtin.append_, run_underlying hu, run_size hi, hsi, Builtin.lenOf, hnc, Builtin.firstCells, storeCells]
/-- append of bytes that may be read, nil or not. -/
theorem append_b {P : Program} {w : World} {t e : TypeId} {by_ : Nat} {z s : Value} {n base m c : Nat} {xs : List Value} {ys : List Int} {p : Option Addr} {KK : Value → World → Prop} (ht : (row P t).k = .slice e) (he : row P e = ⟨.int .u8, 1, by_, some z⟩) (hzs : z.cells.size = 1)
    (hown : w.ownsRow base e 1 s n xs) (hm : m = ys.length) (h : ∀ (j : Nat) (y : Int), ys[j]? = some y → ∃ ad, p = some ad ∧ w.cell? (ad.add j) = some (.int .u8 y)) (hb : base ≤ w.heap.size) (h63 : n + m ≤ maxLen) (hby : (n + m) * by_ ≤ 140737488355328)
    (kk : ∀ v' w', w'.ownsRow base e 1 v' (n + m) (xs ++ ys.map (Value.int .u8)) → Fm (fun i => s.ownBlock = some i) w w' → (v'.ownBlock = s.ownBlock ∨ v'.ownBlock = some w.heap.size) → KK v' w') :
    runs P (Builtin.append_ #[t, t] t #[s, .slice p m c]) w KK := by
  subst hm
  cases p with
  | none =>
    have : ys = [] := by
      cases ys with
      | nil => rfl
      | cons y ys => obtain ⟨_, e, _⟩ := h 0 y rfl; cases e
    subst this
    obtain ⟨b, cb, rfl, -⟩ := own_read hown
    refine append_none ht he (own_cap hown) (kk _ _ ?_ (Fm.refl _ _) (.inl rfl))
    simpa using hown
  | some a =>
    refine append_at (news := ys.map (Value.int .u8)) ht he hzs hown (by simp) (fun j u hj => ?_) (by simp [Value.oneCell']) hb h63 hby kk
    rw [List.getElem?_map, Option.map_eq_some_iff] at hj
    obtain ⟨y, hy, rfl⟩ := hj
    obtain ⟨ad, e, hc⟩ := h j y hy
    cases e; exact hc
/-- A byte of a text. -/
theorem index_str {P : Program} {w : World} {t : TypeId} {ys : List Int} {j : Nat} {y : Int} {k : IntKind} {K : Value → World → Prop} (ht : (row P t).k = .string) (hr : ∀ y ∈ ys, 0 ≤ y ∧ y < 256) (h : ys[j]? = some y) (kk : K (.int .u8 y) w) :
    runs P (Instr.index t (.string (strOfNums ys)) (.int k j)) w K := by
  have hu := string_of_row ht
  have hy := hr y (List.mem_of_getElem? h)
  have hj := (List.getElem?_eq_some_iff.1 h).1
  have hs : (strOfNums ys)[j]? = some (UInt8.ofNat y.toNat) := by
    have hsz : j < (strOfNums ys).size := by rw [strOfNums_size]; exact hj
    rw [getElem?_pos (strOfNums ys) j hsz]
    congr 1
    show (strOfNums ys).data[j] = _
    have : (strOfNums ys).data[j]? = some (UInt8.ofNat y.toNat) := by
      unfold strOfNums
      rw [List.getElem?_toArray, List.getElem?_map, h]; rfl
    rw [Array.getElem?_eq_getElem (by rw [ByteArray.size] at hsz; exact hsz)] at this
    exact Option.some.inj this
  refine ⟨_, _, ?_, kk⟩
  unfold Instr.index
  simp only [asIntOf, Sem.run_bind, Sem.run_pure, Result.andThen_ok, run_underlying hu, Int.natCast_nonneg, if_true, Int.toNat_natCast, hs]
  congr 2
  simp only [UInt8.toNat_ofNat']
  omega
/-- A slice of zeros. -/
theorem make_b {P : Program} {w : World} {t e : TypeId} {by_ n base : Nat} {kl kc : IntKind} {K : Value → World → Prop} (ht : (row P t).k = .slice e) (he : row P e = ⟨.int .u8, 1, by_, some (.int .u8 0)⟩) (hb : by_ * n ≤ 281474976710656) (h63 : n ≤ maxLen) (hbase : base ≤ w.heap.size)
    (kk : ∀ w', w'.ownsRow base e 1 (.slice (some ⟨w.heap.size, 0, none⟩) n n) n ((List.replicate n (0 : Int)).map (Value.int .u8)) → Fm none' w w' → K (.slice (some ⟨w.heap.size, 0, none⟩) n n) w') : runs P (Instr.makeSlice t (.int kl n) (.int kc n)) w K := by
  obtain ⟨i, hi, hz, hsz, hbt⟩ := info_of_row he
  have hu := slice_of_row ht
  obtain ⟨w', hr, ho, hg⟩ := run_make_full (P := P) w base t e i _ 1 hu hi hz hsz kl kc n (by rw [hbt]; exact hb) h63 hbase
  refine ⟨_, _, hr, kk w' ?_ ((Fm.grown hg).mono fun _ _ h => by cases h)⟩
  have : (madeCells (Value.int .u8 0).cells (n * 1)).toList = (List.replicate n (0 : Int)).map (Value.int .u8) := by
    have hc : (Value.int .u8 0).cells = #[.int .u8 0] := rfl
    simp only [madeCells, hc, Nat.mul_one]
    refine List.ext_getElem? fun j => ?_
    by_cases hj : j < n
    · simp [hj, Nat.mod_one]
    · simp [hj]
  rw [this] at ho
  exact ho
theorem stC_at_from {b : Nat} {t : TypeId} {i : Nat} : ∀ (vs : List Value) (k : Nat) (w : World) (c : Array Value), w.heap[b]? = some (.cells c t (0, 0)) → i + k + vs.length ≤ c.size → (∀ v ∈ vs, v.oneCell' = true) →
    canWrite w ⟨b, i, none⟩ k vs ∧ ∃ c' : Array Value, (written w ⟨b, i, none⟩ k vs).heap[b]? = some (.cells c' t (0, 0)) ∧ c'.toList = c.toList.take (i + k) ++ vs ++ c.toList.drop (i + k + vs.length) ∧ Fm (fun j => j = b) w (written w ⟨b, i, none⟩ k vs) := by
  intro vs
  induction vs with
  | nil =>
    intro k w c h hi _
    exact ⟨trivial, c, h, by simp, Fm.refl _ _⟩
  | cons v vs ih =>
    intro k w c h hi hv
    simp only [List.length_cons] at hi
    have hs : (w.setCell ⟨b, i + k, none⟩ v).heap[b]? = some (.cells (c.setIfInBounds (i + k) v) t (0, 0)) := setOf h
    obtain ⟨h1, c', h2, h3, h4⟩ := ih (k + 1) (w.setCell ⟨b, i + k, none⟩ v) (c.setIfInBounds (i + k) v) hs (by simp; omega) (fun x hx => hv x (List.mem_cons_of_mem _ hx))
    have he : (⟨b, i, none⟩ : Addr).add k = ⟨b, i + k, none⟩ := addr_add b i k
    refine ⟨⟨⟨c[i + k]'(by omega), ?_⟩, ?_, hv v List.mem_cons_self, ?_⟩, c', ?_, ?_, ?_⟩
    · rw [he]; exact cellOf h (by simp)
    · rw [he]; exact freeOf h
    · rw [he]; exact h1
    · simp only [written, he]; exact h2
    · rw [h3, Array.toList_setIfInBounds]
      have hl : i + k < c.toList.length := by simp; omega
      rw [← Nat.add_assoc, List.take_set, List.take_add_one, List.getElem?_eq_getElem hl, List.set_append_right _ _ (by simp; omega), List.drop_set_of_lt (by omega)]
      simp [Nat.min_eq_left (show i + k ≤ c.size by omega), show i + k + 1 + vs.length = i + k + (vs.length + 1) by omega]
    · simp only [written, he]
      exact (Fm.setCell w ⟨b, i + k, none⟩ v).trans h4
/-- Some cells of a known block are written. -/
theorem stC_at {w : World} {b i : Nat} {c : Array Value} {t : TypeId} {vs : List Value} {K : World → Prop} (h : w.heap[b]? = some (.cells c t (0, 0))) (hs : i + vs.length ≤ c.size) (hv : ∀ v ∈ vs, v.oneCell' = true)
    (k : ∀ w', w'.heap[b]? = some (.cells (c.toList.take i ++ vs ++ c.toList.drop (i + vs.length)).toArray t (0, 0)) → Fm (fun j => j = b) w w' → K w') : stC w ⟨b, i, none⟩ vs K := by
  obtain ⟨h1, c', h2, h3, h4⟩ := stC_at_from vs 0 w c h (by omega) hv
  refine ⟨h1, fun w' hw' => ?_⟩
  subst hw'
  refine k _ ?_ h4
  rw [h2]
  congr 2
  apply Array.ext'
  rw [h3]; simp
theorem min3 {P : Program} {w : World} {ts : Array TypeId} {t : TypeId} {k : IntKind} {a b c : Int} {K : Value → World → Prop} (kk : K (.int k (min (min a b) c)) w) : runs P (Builtin.min_ ts t #[.int k a, .int k b, .int k c]) w K := by
  have h : ∀ a b : Int, (if b < a then b else a) = min a b := fun a b => by rw [Int.min_def]; split <;> split <;> omega
  refine ⟨_, _, ?_, kk⟩
  simp [Builtin.min_, Builtin.min2, h]
theorem max3 {P : Program} {w : World} {ts : Array TypeId} {t : TypeId} {k : IntKind} {a b c : Int} {K : Value → World → Prop} (kk : K (.int k (max (max a b) c)) w) : runs P (Builtin.max_ ts t #[.int k a, .int k b, .int k c]) w K := by
  have h : ∀ a b : Int, (if a < b then b else a) = max a b := fun a b => by rw [Int.max_def]; split <;> split <;> omega
  refine ⟨_, _, ?_, kk⟩
  simp [Builtin.max_, Builtin.max2, h]
theorem extract_str (ys : List Int) (l h : Nat) : (strOfNums ys).extract l h = strOfNums ((ys.take h).drop l) := by
  unfold strOfNums
  apply ByteArray.ext
  rw [ByteArray.data_extract]
  apply Array.ext'
  simp [List.extract_eq_take_drop, List.map_drop, List.map_take, List.drop_take]
/-- A text, cut. -/
theorem slice_str {P : Program} {w : World} {t : TypeId} {ys : List Int} {l h : Nat} {kl kh : IntKind} {K : Value → World → Prop} (ht : (row P t).k = .string) (hl : l ≤ h) (hh : h ≤ ys.length) (k : K (.string (strOfNums ((ys.take h).drop l))) w) :
    runs P (Instr.sliceAt t (.string (strOfNums ys)) (some (.int kl (l : Int))) (some (.int kh (h : Int))) none) w K := by
  have hu := string_of_row ht
  refine ⟨_, _, ?_, k⟩
  rw [run_sliceAt_string w t _ _ _ _ hu, run_slice_string_if w t _ _ _ _ _ hu, if_pos ⟨by omega, by rw [strOfNums_size]; omega⟩, if_pos ⟨by omega, by omega⟩, Int.toNat_natCast, Int.toNat_natCast, extract_str]
end Go.Proofs.YtipikchkbmgloaaDoor.VC
/- message: are two messages the same, as the reference has it.  Conditions: their bytes may be read, and are bytes. -/
namespace Go.Proofs.YtipikchkbmgloaaDoor
set_option linter.unusedSimpArgs false
set_option linter.unusedVariables false
open Go Go.RowKit VC
variable {w : World}
def sameO (a b : Msg) : Prop := a.kind = b.kind ∧ a.seq = b.seq ∧ (a.cq = b.cq ∧ a.cb = b.cb ∧ a.cdx = b.cdx ∧ a.cdy = b.cdy ∧ a.ct = b.ct) ∧ a.prov = b.prov ∧ a.id = b.id ∧ a.shot = b.shot
instance (a b : Msg) : Decidable (sameO a b) := by unfold sameO; infer_instance
set_option maxRecDepth 20000 in
set_option maxHeartbeats 2000000 in
theorem same27_c {a b : Msg} {p q : Option Addr} {cp cq : Nat} (ha : BytesAt w p a.bytes) (hb : BytesAt w q b.bytes) (hra : ∀ y ∈ a.bytes, 0 ≤ y ∧ y < 256) (hrb : ∀ y ∈ b.bytes, 0 ≤ y ∧ y < 256) :
    callV Tryd.prog 74 [.agg (msgC a p cp).toArray, .agg (msgC b q cq).toArray] w fun v w' => v = .bool (decide (a = b)) ∧ Fm none' w w' := by
  unfold msgC
  apply vc74
  refine ⟨fun u w' => u 2 = .pointer (some ⟨w.heap.size, 0, none⟩) ∧ u 3 = .pointer (some ⟨w.heap.size + 1, 0, none⟩) ∧ w'.heap[w.heap.size]? = some (.cells (msgC a p cp).toArray 53 (0, 0)) ∧ w'.heap[w.heap.size + 1]? = some (.cells (msgC b q cq).toArray 53 (0, 0)) ∧ Fm none' w w', ?_, ?_⟩
  · refine allocC_of fun w1 hb1 hs1 hf1 => allocC_of fun w3 hb3 hs3 hf3 => ?_
    rw [hs1] at hb3 ⊢
    exact ⟨rfl, rfl, hf3.keep hb1 id, hb3, hf1.trans hf3⟩
  rintro u w7 ⟨h2, h3, h0, hb3, hF⟩
  change u 2 = _ at h2
  change u 3 = _ at h3
  have no : a ≠ b → Value.bool false = Value.bool (decide (a = b)) ∧ Fm none' w w7 := fun h => ⟨by rw [decide_eq_false h], hF⟩
  refine ⟨fun u w' => u 5 = .bool (decide (sameO a b)) ∧ w' = w7, ?_, ?_⟩
  · have no1 : ¬ sameO a b → alist [(5, .bool false)] 5 = .bool (decide (sameO a b)) := fun h => by rw [decide_eq_false h]; rfl
    simp only [h2, h3, vcs, eqV, nilV, Option.map_some, Nat.mul_one, implies_true, true_and, and_true, and_self, addr_add, Nat.zero_add]
    refine rd_of (v := .int .i64 a.kind) (cellOf h0 rfl) ?_
    simp only [h2, h3, vcs, eqV, nilV, Option.map_some, Nat.mul_one, implies_true, true_and, and_true, and_self, addr_add, Nat.zero_add]
    refine rd_of (v := .int .i64 b.kind) (cellOf hb3 rfl) ?_
    simp only [h2, h3, vcs, eqV, nilV, Option.map_some, Nat.mul_one, implies_true, true_and, and_true, and_self, addr_add, Nat.zero_add]
    refine br_dec (fun e0 => ?_) (fun e => no1 fun h => e (by have := h; unfold sameO at this; simp [this]))
    try simp only [h2, h3, vcs, eqV, nilV, Option.map_some, Nat.mul_one, implies_true, true_and, and_true, and_self, addr_add, Nat.zero_add]
    refine rd_of (v := .int .u16 a.seq) (cellOf h0 rfl) ?_
    simp only [h2, h3, vcs, eqV, nilV, Option.map_some, Nat.mul_one, implies_true, true_and, and_true, and_self, addr_add, Nat.zero_add]
    refine rd_of (v := .int .u16 b.seq) (cellOf hb3 rfl) ?_
    simp only [h2, h3, vcs, eqV, nilV, Option.map_some, Nat.mul_one, implies_true, true_and, and_true, and_self, addr_add, Nat.zero_add]
    refine br_dec (fun e1 => ?_) (fun e => no1 fun h => e (by have := h; unfold sameO at this; simp [this]))
    try simp only [h2, h3, vcs, eqV, nilV, Option.map_some, Nat.mul_one, implies_true, true_and, and_true, and_self, addr_add, Nat.zero_add]
    refine rd_of (v := ([.int .u16 a.cq, .int .u8 a.cb, .int .i8 a.cdx, .int .i8 a.cdy, .int .i64 a.ct] : List Value)) (cells_row h0 (by simp [msgC])) ?_
    try simp only [h2, h3, vcs, eqV, nilV, Option.map_some, Nat.mul_one, implies_true, true_and, and_true, and_self, addr_add, Nat.zero_add]
    refine rd_of (v := ([.int .u16 b.cq, .int .u8 b.cb, .int .i8 b.cdx, .int .i8 b.cdy, .int .i64 b.ct] : List Value)) (cells_row hb3 (by simp [msgC])) ?_
    rw [eq5]
    simp only [vcs, eqV, nilV, Option.map_some, Nat.mul_one, implies_true, true_and, and_true, and_self]
    refine br_b (fun e2 => ?_) (fun e => no1 fun h => by have := h; unfold sameO at this; simp [this] at e)
    simp only [Bool.and_eq_true, decide_eq_true_eq] at e2
    try simp only [h2, h3, vcs, eqV, nilV, Option.map_some, Nat.mul_one, implies_true, true_and, and_true, and_self, addr_add, Nat.zero_add]
    refine rd_of (v := .int .u16 a.prov) (cellOf h0 rfl) ?_
    simp only [h2, h3, vcs, eqV, nilV, Option.map_some, Nat.mul_one, implies_true, true_and, and_true, and_self, addr_add, Nat.zero_add]
    refine rd_of (v := .int .u16 b.prov) (cellOf hb3 rfl) ?_
    simp only [h2, h3, vcs, eqV, nilV, Option.map_some, Nat.mul_one, implies_true, true_and, and_true, and_self, addr_add, Nat.zero_add]
    refine br_dec (fun e3 => ?_) (fun e => no1 fun h => e (by have := h; unfold sameO at this; simp [this]))
    try simp only [h2, h3, vcs, eqV, nilV, Option.map_some, Nat.mul_one, implies_true, true_and, and_true, and_self, addr_add, Nat.zero_add]
    refine rd_of (v := .int .i64 a.id) (cellOf h0 rfl) ?_
    simp only [h2, h3, vcs, eqV, nilV, Option.map_some, Nat.mul_one, implies_true, true_and, and_true, and_self, addr_add, Nat.zero_add]
    refine rd_of (v := .int .i64 b.id) (cellOf hb3 rfl) ?_
    simp only [h2, h3, vcs, eqV, nilV, Option.map_some, Nat.mul_one, implies_true, true_and, and_true, and_self, addr_add, Nat.zero_add]
    refine br_dec (fun e4 => ?_) (fun e => no1 fun h => e (by have := h; unfold sameO at this; simp [this]))
    try simp only [h2, h3, vcs, eqV, nilV, Option.map_some, Nat.mul_one, implies_true, true_and, and_true, and_self, addr_add, Nat.zero_add]
    refine rd_of (v := .int .i64 a.shot) (cellOf h0 rfl) ?_
    simp only [h2, h3, vcs, eqV, nilV, Option.map_some, Nat.mul_one, implies_true, true_and, and_true, and_self, addr_add, Nat.zero_add]
    refine rd_of (v := .int .i64 b.shot) (cellOf hb3 rfl) ?_
    simp only [h2, h3, vcs, eqV, nilV, Option.map_some, Nat.mul_one, implies_true, true_and, and_true, and_self, addr_add, Nat.zero_add]
    show Value.bool _ = _
    congr 1
    rw [decide_eq_decide]
    unfold sameO
    exact ⟨fun h => ⟨e0, e1, ⟨e2.1, e2.2.1, e2.2.2.1, e2.2.2.2.1, e2.2.2.2.2.1⟩, e3, e4, h⟩, fun h => h.2.2.2.2.2⟩
  · rintro u2 w48 ⟨h5, e0⟩
    obtain rfl : w7 = w48 := e0.symm
    change u2 5 = _ at h5
    simp only [h2, h3, h5, vcs, eqV, nilV, Option.map_some, Nat.mul_one, implies_true, true_and, and_true, and_self, addr_add, Nat.zero_add]
    refine rd_of (v := ([.int .i64 a.d0, .int .i64 a.d1, .int .i64 a.d2] : List Value)) (cells_row h0 (by simp [msgC])) ?_
    try simp only [h2, h3, vcs, eqV, nilV, Option.map_some, Nat.mul_one, implies_true, true_and, and_true, and_self, addr_add, Nat.zero_add]
    refine rd_of (v := ([.int .i64 b.d0, .int .i64 b.d1, .int .i64 b.d2] : List Value)) (cells_row hb3 (by simp [msgC])) ?_
    rw [eq3]
    simp only [vcs, eqV, nilV, Option.map_some, Nat.mul_one, implies_true, true_and, and_true, and_self]
    refine br_b (fun e6 => ?_) (fun e => br_b (fun _ => no fun h => by rw [h] at e; simp at e) (fun _ => no fun h => by rw [h] at e; simp at e))
    simp only [Bool.and_eq_true, decide_eq_true_eq] at e6
    try simp only [h2, h3, vcs, eqV, nilV, Option.map_some, Nat.mul_one, implies_true, true_and, and_true, and_self, addr_add, Nat.zero_add]
    refine rd_of (v := .int .i64 a.why) (cellOf h0 rfl) ?_
    simp only [h2, h3, vcs, eqV, nilV, Option.map_some, Nat.mul_one, implies_true, true_and, and_true, and_self, addr_add, Nat.zero_add]
    refine rd_of (v := .int .i64 b.why) (cellOf hb3 rfl) ?_
    simp only [h2, h3, vcs, eqV, nilV, Option.map_some, Nat.mul_one, implies_true, true_and, and_true, and_self, addr_add, Nat.zero_add]
    refine br_dec (fun e7 => ?_) (fun e => br_b (fun _ => no fun h => e (by rw [h])) (fun _ => no fun h => e (by rw [h])))
    try simp only [h2, h3, vcs, eqV, nilV, Option.map_some, Nat.mul_one, implies_true, true_and, and_true, and_self, addr_add, Nat.zero_add]
    refine rd_of (v := ([.int .i64 a.p0, .int .i64 a.p1, .int .i64 a.p2] : List Value)) (cells_row h0 (by simp [msgC])) ?_
    try simp only [h2, h3, vcs, eqV, nilV, Option.map_some, Nat.mul_one, implies_true, true_and, and_true, and_self, addr_add, Nat.zero_add]
    refine rd_of (v := ([.int .i64 b.p0, .int .i64 b.p1, .int .i64 b.p2] : List Value)) (cells_row hb3 (by simp [msgC])) ?_
    rw [eq3]
    simp only [vcs, eqV, nilV, Option.map_some, Nat.mul_one, implies_true, true_and, and_true, and_self]
    refine br_b (fun e8 => ?_) (fun e => br_b (fun _ => no fun h => by rw [h] at e; simp at e) (fun _ => no fun h => by rw [h] at e; simp at e))
    simp only [Bool.and_eq_true, decide_eq_true_eq] at e8
    try simp only [h2, h3, vcs, eqV, nilV, Option.map_some, Nat.mul_one, implies_true, true_and, and_true, and_self, addr_add, Nat.zero_add]
    refine rd_of (v := ([.int .i64 a.v0, .int .i64 a.v1, .int .i64 a.v2] : List Value)) (cells_row h0 (by simp [msgC])) ?_
    try simp only [h2, h3, vcs, eqV, nilV, Option.map_some, Nat.mul_one, implies_true, true_and, and_true, and_self, addr_add, Nat.zero_add]
    refine rd_of (v := ([.int .i64 b.v0, .int .i64 b.v1, .int .i64 b.v2] : List Value)) (cells_row hb3 (by simp [msgC])) ?_
    rw [eq3]
    simp only [vcs, eqV, nilV, Option.map_some, Nat.mul_one, implies_true, true_and, and_true, and_self]
    refine br_b (fun e9 => ?_) (fun e => br_b (fun _ => no fun h => by rw [h] at e; simp at e) (fun _ => no fun h => by rw [h] at e; simp at e))
    simp only [Bool.and_eq_true, decide_eq_true_eq] at e9
    try simp only [h2, h3, vcs, eqV, nilV, Option.map_some, Nat.mul_one, implies_true, true_and, and_true, and_self, addr_add, Nat.zero_add]
    refine rd_of (v := .int .u32 a.tick) (cellOf h0 rfl) ?_
    simp only [h2, h3, vcs, eqV, nilV, Option.map_some, Nat.mul_one, implies_true, true_and, and_true, and_self, addr_add, Nat.zero_add]
    refine rd_of (v := .int .u32 b.tick) (cellOf hb3 rfl) ?_
    simp only [h2, h3, vcs, eqV, nilV, Option.map_some, Nat.mul_one, implies_true, true_and, and_true, and_self, addr_add, Nat.zero_add]
    refine br_dec (fun e10 => ?_) (fun e => br_b (fun _ => no fun h => e (by rw [h])) (fun _ => no fun h => e (by rw [h])))
    try simp only [h2, h3, vcs, eqV, nilV, Option.map_some, Nat.mul_one, implies_true, true_and, and_true, and_self, addr_add, Nat.zero_add]
    refine rd_of (v := .int .u32 a.bse) (cellOf h0 rfl) ?_
    simp only [h2, h3, vcs, eqV, nilV, Option.map_some, Nat.mul_one, implies_true, true_and, and_true, and_self, addr_add, Nat.zero_add]
    refine rd_of (v := .int .u32 b.bse) (cellOf hb3 rfl) ?_
    simp only [h2, h3, vcs, eqV, nilV, Option.map_some, Nat.mul_one, implies_true, true_and, and_true, and_self, addr_add, Nat.zero_add]
    refine br_b (fun e0 => ?_) (fun e => no fun h => by rw [h] at e; simp [sameO] at e)
    replace e0 : sameO a b := of_decide_eq_true e0
    unfold sameO at e0
    refine br_dec (fun e11 => ?_) (fun e => no fun h => e (by rw [h]))
    try simp only [h2, h3, vcs, eqV, nilV, Option.map_some, Nat.mul_one, implies_true, true_and, and_true, and_self, addr_add, Nat.zero_add]
    refine rd_of (v := .slice p a.bytes.length cp) (cellOf h0 rfl) ?_
    simp only [vcs, eqV, nilV, Option.map_some, Nat.mul_one, implies_true, true_and, and_true, and_self]
    refine conv_bytes (by rw [row25]) (by rw [row5]) (by rw [row9]) rfl (ha.keep hF fun _ _ => id) ?_
    simp only [h2, h3, vcs, eqV, nilV, Option.map_some, Nat.mul_one, implies_true, true_and, and_true, and_self, addr_add, Nat.zero_add]
    refine rd_of (v := .slice q b.bytes.length cq) (cellOf hb3 rfl) ?_
    simp only [vcs, eqV, nilV, Option.map_some, Nat.mul_one, implies_true, true_and, and_true, and_self]
    refine conv_bytes (by rw [row25]) (by rw [row5]) (by rw [row9]) rfl (hb.keep hF fun _ _ => id) ?_
    simp only [vcs, eqV, nilV, Option.map_some, Nat.mul_one, implies_true, true_and, and_true, and_self]
    refine ⟨?_, hF⟩
    congr 1
    rw [decide_eq_decide, strOfNums_inj hra hrb]
    constructor
    · intro h
      rw [← sameP_iff]
      unfold sameP
      exact ⟨e0.1, e0.2.1, e0.2.2.1.1, e0.2.2.1.2.1, e0.2.2.1.2.2.1, e0.2.2.1.2.2.2.1, e0.2.2.1.2.2.2.2, e0.2.2.2.1, e0.2.2.2.2.1, e0.2.2.2.2.2, e6.1, e6.2.1, e6.2.2.1, e7, e8.1, e8.2.1, e8.2.2.1, e9.1, e9.2.1, e9.2.2.1, e10, e11, h⟩
    · intro h; rw [h]
end Go.Proofs.YtipikchkbmgloaaDoor
/- message's laws: rows of messages; are two the same; the first few.  Conditions: the messages may be read. -/
namespace Go.Proofs.YtipikchkbmgloaaDoor
set_option linter.unusedSimpArgs false
set_option linter.unusedVariables false
open Go Go.RowKit VC
theorem add0 (ad : Addr) (j : Nat) : (ad.add 0).add j = ad.add j := by unfold Addr.add; split <;> simp_all
theorem add_add (ad : Addr) (i j : Nat) : (ad.add i).add j = ad.add (i + j) := by
  unfold Addr.add; repeat' split
  all_goals first | (simp_all; done) | (simp_all [Nat.add_assoc]; done) | (exfalso; omega)
/-- Messages in a row that is owned from base on; their bytes lie in blocks below N. -/
def RowMsgs (w : World) (base N : Nat) (sv : Value) (ms : List Msg) : Prop :=
  ∃ qs : List (Option Addr × Nat), qs.length = ms.length ∧ w.ownsRow base 53 23 sv ms.length ((ms.zip qs).flatMap fun x => msgC x.1 x.2.1 x.2.2) ∧
    ∀ (j : Nat) (m : Msg) (q : Option Addr × Nat), ms[j]? = some m → qs[j]? = some q → BytesAt w q.1 m.bytes ∧ ∀ ad, q.1 = some ad → m.bytes ≠ [] → ad.block < N
theorem flat_get {α : Type} {f : α → List Value} {k : Nat} (hf : ∀ x, (f x).length = k) : ∀ (l : List α) (j i : Nat) (x : α), l[j]? = some x → i < k → (l.flatMap f)[j * k + i]? = (f x)[i]? := by
  intro l
  induction l with
  | nil => intro j i x h; simp at h
  | cons y l ih =>
    intro j i x h hi
    rw [List.flatMap_cons]
    cases j with
    | zero =>
      simp at h; subst h
      rw [List.getElem?_append_left (by rw [hf]; omega)]; simp
    | succ j =>
      rw [List.getElem?_append_right (by rw [hf, Nat.succ_mul]; omega), hf, show (j + 1) * k + i - k = j * k + i by rw [Nat.succ_mul]; omega]
      exact ih j i x (by simpa using h) hi
theorem cellsAt_of {w : World} {a : Addr} : ∀ {l : List Value}, (∀ j v, l[j]? = some v → w.cell? (a.add j) = some v) → cellsAt w a l.length = some l := by
  intro l h
  have key : ∀ n, n ≤ l.length → cellsAt w a n = some (l.take n) := by
    intro n
    induction n with
    | zero => intro _; rfl
    | succ n ih =>
      intro hn
      have hg : l[n]? = some (l[n]'(by omega)) := by simp
      simp only [cellsAt, ih (by omega), h n _ hg, Option.map_some, Option.bind_some]
      rw [List.take_add_one, hg]; rfl
  rw [key l.length (Nat.le_refl _), List.take_length]
theorem RowMsgs.at {w : World} {base N : Nat} {p : Option Addr} {n c : Nat} {ms : List Msg} (h : RowMsgs w base N (.slice p n c) ms) (hN : N ≤ w.heap.size) : n = ms.length ∧ MsgsAt w w.heap.size p ms := by
  obtain ⟨qs, hl, ho, hb⟩ := h
  have hsl := own_readS ho
  obtain ⟨p', cp, e, hlen, hr⟩ := hsl
  cases e
  refine ⟨rfl, fun j m hj => ?_⟩
  have hjl := (List.getElem?_eq_some_iff.1 hj).1
  obtain ⟨q, hq⟩ : ∃ q, qs[j]? = some q := ⟨qs[j]'(by omega), by simp⟩
  have hz : (ms.zip qs)[j]? = some (m, q) := by rw [List.getElem?_zip_eq_some]; exact ⟨hj, hq⟩
  have hget : ∀ i v, (msgC m q.1 q.2)[i]? = some v → ((ms.zip qs).flatMap fun x => msgC x.1 x.2.1 x.2.2)[j * 23 + i]? = some v := fun i v hv => by
    have hi : i < 23 := (List.getElem?_eq_some_iff.1 hv).1
    rw [flat_get (k := 23) (fun _ => rfl) _ j i (m, q) hz hi]; exact hv
  obtain ⟨hby, hbN⟩ := hb j m q hj hq
  obtain ⟨g, rfl, hg, hgo, hc0⟩ := hr (j * 23) _ (hget 0 _ rfl)
  refine ⟨_, q.1, q.2, rfl, by obtain ⟨_, cur, hcc⟩ := own_block ho hgo; exact lt_of_blk hcc, ?_, hby, fun ad e hne => by have := hbN ad e hne; omega⟩
  have := cellsAt_of (w := w) (a := (⟨g, 0, none⟩ : Addr).add (j * 23)) (l := msgC m q.1 q.2) (fun i v hv => by
    obtain ⟨g', e, _, _, hc⟩ := hr (j * 23 + i) v (hget i v hv)
    cases e
    rw [addr_add, addr_add, Nat.zero_add]; exact hc)
  exact this
theorem OwnMsgs.at {w : World} {base : Nat} {sv : Value} {ms : List Msg} (h : OwnMsgs w base sv ms) : ∃ p c, sv = .slice p ms.length c ∧ MsgsAt w w.heap.size p ms := by
  obtain ⟨qs, hl, ho, hb⟩ := h
  have ho' := ho
  obtain ⟨p, cp, rfl, -, -⟩ := own_readS ho'
  refine ⟨p, cp, rfl, (RowMsgs.at (base := base) (N := w.heap.size) ⟨qs, hl, ho, fun j m q hj hq => ⟨BytesAt.of_own (hb j m q hj hq), fun ad e _ => ?_⟩⟩ (Nat.le_refl _)).2⟩
  have h5 := hb j m q hj hq
  rcases h5.2 with h0 | ⟨g, cap, cur, hv, hg, hgb, _⟩
  · rw [e] at h0; cases h0.1
  · rw [e] at hv; cases hv; exact lt_of_blk hgb
theorem RowMsgs.nil (w : World) (base N : Nat) : RowMsgs w base N (.slice none 0 0) [] := ⟨[], rfl, ⟨rfl, .inl ⟨rfl, rfl⟩⟩, fun j m q h => by simp at h⟩
variable {w : World}
set_option maxRecDepth 20000 in
theorem same14_c {xs bs : List Msg} {p q : Option Addr} {cp cq N N' : Nat} (ha : MsgsAt w N p xs) (hb : MsgsAt w N' q bs) (hra : ∀ m ∈ xs, ∀ y ∈ m.bytes, 0 ≤ y ∧ y < 256) (hrb : ∀ m ∈ bs, ∀ y ∈ m.bytes, 0 ≤ y ∧ y < 256) (hl : xs.length ≤ 1000000000) :
    callV Tryd.prog 14 [.slice p xs.length cp, .slice q bs.length cq] w fun v w' => v = .bool (decide (xs = bs)) ∧ Fm none' w w' := by
  refine vc14 p xs.length cp q bs.length cq w _ ?_
  refine br_ndec (fun hn => ?_) (fun hn => ?_)
  · refine ⟨?_, Fm.refl _ _⟩
    rw [decide_eq_false]
    rintro rfl; exact hn rfl
  refine ⟨fun u w' => ∃ j : Nat, j ≤ xs.length ∧ u 5 = .int .i64 j ∧ xs.take j = bs.take j ∧ Fm none' w w', fun u _ => xs.length - (intOf (u 5)).toNat, ⟨0, by omega, rfl, rfl, Fm.refl _ _⟩, ?_⟩
  rintro u w3 ⟨j, hj, h5, ht, hF⟩
  change u 5 = .int .i64 j at h5
  simp only [h5, vcs, eqV, nilV, Option.map_some, Nat.mul_one, implies_true, true_and, and_true, and_self]
  have hll : xs.length = bs.length := by omega
  refine br_dec (fun hjn => ?_) (fun hjn => ?_)
  · obtain ⟨m, hm⟩ : ∃ m, xs[j]? = some m := ⟨xs[j]'(by omega), by simp⟩
    obtain ⟨m', hm'⟩ : ∃ m', bs[j]? = some m' := ⟨bs[j]'(by omega), by simp⟩
    obtain ⟨ad, q1, c1, rfl, hN1, hc1, hb1, hq1⟩ := (ha.keep hF fun _ _ => id) j m hm
    obtain ⟨ad', q2, c2, rfl, hN2, hc2, hb2, hq2⟩ := (hb.keep hF fun _ _ => id) j m' hm'
    simp only [vcs, eqV, nilV, Option.map_some, Nat.mul_one, implies_true, true_and, and_true, and_self]
    refine ⟨by omega, rd_of hc1 ?_⟩
    refine allocC_of fun w10 hb10 hs10 hf10 => ?_
    refine rd_of (v := ()) rfl ?_
    refine stC_all hb10 rfl msgC_one fun w11 hb11 hf11 => ?_
    have hF11 : Fm none' w3 w11 := hf10.trans' hf11 (by rintro i hi rfl; omega)
    refine ⟨by omega, rd_of (hF11.cells id hc2) ?_⟩
    refine allocC_of fun w16 hb16 hs16 hf16 => ?_
    refine rd_of (v := ()) rfl ?_
    refine stC_all hb16 rfl msgC_one fun w17 hb17 hf17 => ?_
    have hl11 := lt_of_blk hb11
    have hF17 : Fm none' w3 w17 := hF11.trans (hf16.trans' hf17 (by rintro i hi rfl; omega))
    have h0 := hf17.keep (hf16.keep hb11 id) (by omega)
    have h1 := hb17
    clear hb10 hb11 hb16 hb17 hf10 hf11 hf16 hf17 hF11
    have hFF := hF.trans hF17
    have no : m ≠ m' → Value.bool false = Value.bool (decide (xs = bs)) ∧ Fm none' w w17 := fun h => ⟨by rw [decide_eq_false]; rintro rfl; rw [hm] at hm'; exact h (Option.some.inj hm'), hFF⟩
    refine rd_of (v := .int .i64 m.kind) (cellOf h0 rfl) ?_
    simp only [vcs, eqV, nilV, Option.map_some, Nat.mul_one, implies_true, true_and, and_true, and_self]
    refine rd_of (v := .int .i64 m'.kind) (cellOf h1 rfl) ?_
    simp only [vcs, eqV, nilV, Option.map_some, Nat.mul_one, implies_true, true_and, and_true, and_self]
    refine br_ndec (fun e => no fun h => e (by rw [h])) (fun e0 => ?_)
    refine rd_of (v := .int .u16 m.seq) (cellOf h0 rfl) ?_
    simp only [vcs, eqV, nilV, Option.map_some, Nat.mul_one, implies_true, true_and, and_true, and_self]
    refine rd_of (v := .int .u16 m'.seq) (cellOf h1 rfl) ?_
    simp only [vcs, eqV, nilV, Option.map_some, Nat.mul_one, implies_true, true_and, and_true, and_self]
    refine br_ndec (fun e => no fun h => e (by rw [h])) (fun e1 => ?_)
    refine rd_of (v := ([.int .u16 m.cq, .int .u8 m.cb, .int .i8 m.cdx, .int .i8 m.cdy, .int .i64 m.ct] : List Value)) (cells_row h0 (by simp [msgC])) ?_
    refine rd_of (v := ([.int .u16 m'.cq, .int .u8 m'.cb, .int .i8 m'.cdx, .int .i8 m'.cdy, .int .i64 m'.ct] : List Value)) (cells_row h1 (by simp [msgC])) ?_
    rw [eq5]
    simp only [vcs, eqV, nilV, Option.map_some, Nat.mul_one, implies_true, true_and, and_true, and_self]
    refine br_b (fun e => no fun h => by subst h; simp at e) (fun e2 => ?_)
    simp only [Bool.not_eq_eq_eq_not, Bool.not_false, Bool.and_true, Bool.and_eq_true, decide_eq_true_eq] at e2
    refine rd_of (v := .int .u16 m.prov) (cellOf h0 rfl) ?_
    simp only [vcs, eqV, nilV, Option.map_some, Nat.mul_one, implies_true, true_and, and_true, and_self]
    refine rd_of (v := .int .u16 m'.prov) (cellOf h1 rfl) ?_
    simp only [vcs, eqV, nilV, Option.map_some, Nat.mul_one, implies_true, true_and, and_true, and_self]
    refine br_ndec (fun e => no fun h => e (by rw [h])) (fun e3 => ?_)
    refine rd_of (v := .int .i64 m.id) (cellOf h0 rfl) ?_
    simp only [vcs, eqV, nilV, Option.map_some, Nat.mul_one, implies_true, true_and, and_true, and_self]
    refine rd_of (v := .int .i64 m'.id) (cellOf h1 rfl) ?_
    simp only [vcs, eqV, nilV, Option.map_some, Nat.mul_one, implies_true, true_and, and_true, and_self]
    refine br_ndec (fun e => no fun h => e (by rw [h])) (fun e4 => ?_)
    refine rd_of (v := .int .i64 m.shot) (cellOf h0 rfl) ?_
    simp only [vcs, eqV, nilV, Option.map_some, Nat.mul_one, implies_true, true_and, and_true, and_self]
    refine rd_of (v := .int .i64 m'.shot) (cellOf h1 rfl) ?_
    simp only [vcs, eqV, nilV, Option.map_some, Nat.mul_one, implies_true, true_and, and_true, and_self]
    refine br_ndec (fun e => no fun h => e (by rw [h])) (fun e5 => ?_)
    refine rd_of (v := ([.int .i64 m.d0, .int .i64 m.d1, .int .i64 m.d2] : List Value)) (cells_row h0 (by simp [msgC])) ?_
    refine rd_of (v := ([.int .i64 m'.d0, .int .i64 m'.d1, .int .i64 m'.d2] : List Value)) (cells_row h1 (by simp [msgC])) ?_
    rw [eq3]
    simp only [vcs, eqV, nilV, Option.map_some, Nat.mul_one, implies_true, true_and, and_true, and_self]
    refine br_b (fun e => no fun h => by subst h; simp at e) (fun e6 => ?_)
    simp only [Bool.not_eq_eq_eq_not, Bool.not_false, Bool.and_true, Bool.and_eq_true, decide_eq_true_eq] at e6
    refine rd_of (v := .int .i64 m.why) (cellOf h0 rfl) ?_
    simp only [vcs, eqV, nilV, Option.map_some, Nat.mul_one, implies_true, true_and, and_true, and_self]
    refine rd_of (v := .int .i64 m'.why) (cellOf h1 rfl) ?_
    simp only [vcs, eqV, nilV, Option.map_some, Nat.mul_one, implies_true, true_and, and_true, and_self]
    refine br_ndec (fun e => no fun h => e (by rw [h])) (fun e7 => ?_)
    refine rd_of (v := ([.int .i64 m.p0, .int .i64 m.p1, .int .i64 m.p2] : List Value)) (cells_row h0 (by simp [msgC])) ?_
    refine rd_of (v := ([.int .i64 m'.p0, .int .i64 m'.p1, .int .i64 m'.p2] : List Value)) (cells_row h1 (by simp [msgC])) ?_
    rw [eq3]
    simp only [vcs, eqV, nilV, Option.map_some, Nat.mul_one, implies_true, true_and, and_true, and_self]
    refine br_b (fun e => no fun h => by subst h; simp at e) (fun e8 => ?_)
    simp only [Bool.not_eq_eq_eq_not, Bool.not_false, Bool.and_true, Bool.and_eq_true, decide_eq_true_eq] at e8
    refine rd_of (v := ([.int .i64 m.v0, .int .i64 m.v1, .int .i64 m.v2] : List Value)) (cells_row h0 (by simp [msgC])) ?_
    refine rd_of (v := ([.int .i64 m'.v0, .int .i64 m'.v1, .int .i64 m'.v2] : List Value)) (cells_row h1 (by simp [msgC])) ?_
    rw [eq3]
    simp only [vcs, eqV, nilV, Option.map_some, Nat.mul_one, implies_true, true_and, and_true, and_self]
    refine br_b (fun e => no fun h => by subst h; simp at e) (fun e9 => ?_)
    simp only [Bool.not_eq_eq_eq_not, Bool.not_false, Bool.and_true, Bool.and_eq_true, decide_eq_true_eq] at e9
    refine rd_of (v := .int .u32 m.tick) (cellOf h0 rfl) ?_
    simp only [vcs, eqV, nilV, Option.map_some, Nat.mul_one, implies_true, true_and, and_true, and_self]
    refine rd_of (v := .int .u32 m'.tick) (cellOf h1 rfl) ?_
    simp only [vcs, eqV, nilV, Option.map_some, Nat.mul_one, implies_true, true_and, and_true, and_self]
    refine br_ndec (fun e => no fun h => e (by rw [h])) (fun e10 => ?_)
    refine rd_of (v := .int .u32 m.bse) (cellOf h0 rfl) ?_
    simp only [vcs, eqV, nilV, Option.map_some, Nat.mul_one, implies_true, true_and, and_true, and_self]
    refine rd_of (v := .int .u32 m'.bse) (cellOf h1 rfl) ?_
    simp only [vcs, eqV, nilV, Option.map_some, Nat.mul_one, implies_true, true_and, and_true, and_self]
    refine br_ndec (fun e => no fun h => e (by rw [h])) (fun e11 => ?_)
    refine rd_of (v := .slice q1 m.bytes.length c1) (cellOf h0 rfl) ?_
    simp only [vcs, eqV, nilV, Option.map_some, Nat.mul_one, implies_true, true_and, and_true, and_self]
    refine conv_bytes (by rw [row25]) (by rw [row5]) (by rw [row9]) rfl (hb1.keep hF17 fun _ _ => id) ?_
    simp only [vcs, eqV, nilV, Option.map_some, Nat.mul_one, implies_true, true_and, and_true, and_self]
    refine rd_of (v := .slice q2 m'.bytes.length c2) (cellOf h1 rfl) ?_
    simp only [vcs, eqV, nilV, Option.map_some, Nat.mul_one, implies_true, true_and, and_true, and_self]
    refine conv_bytes (by rw [row25]) (by rw [row5]) (by rw [row9]) rfl (hb2.keep hF17 fun _ _ => id) ?_
    simp only [vcs, eqV, nilV, Option.map_some, Nat.mul_one, implies_true, true_and, and_true, and_self]
    refine br_ndec (fun e => no fun h => e (by rw [h])) (fun e => ?_)
    rw [strOfNums_inj (hra m (List.mem_of_getElem? hm)) (hrb m' (List.mem_of_getElem? hm'))] at e
    have hmm : m = m' := by
      rw [← sameP_iff]
      unfold sameP
      exact ⟨e0, e1, e2.1, e2.2.1, e2.2.2.1, e2.2.2.2.1, e2.2.2.2.2, e3, e4, e5, e6.1, e6.2.1, e6.2.2, e7, e8.1, e8.2.1, e8.2.2, e9.1, e9.2.1, e9.2.2, e10, e11, e⟩
    subst hmm
    rw [w64 (by omega)]
    refine ⟨⟨j + 1, by omega, rfl, ?_, hFF⟩, ?_⟩
    · rw [List.take_add_one, List.take_add_one, hm, hm', ht]
    · show xs.length - ((j : Int) + 1).toNat < xs.length - (j : Int).toNat; omega
  · have : j = xs.length := by omega
    subst this
    rw [List.take_length, hll, List.take_length] at ht
    refine ⟨?_, hF⟩
    rw [decide_eq_true ht]
def cut (k : Nat) (m : Msg) : Msg := { m with bytes := m.bytes.take k }
def fewM (ms : List Msg) : List Msg := (ms.take 20).map (cut 2000)
theorem msgC_inj {m m' : Msg} {q q' : Option Addr} {c c' : Nat} (h : msgC m q c = msgC m' q' c') : q = q' ∧ c = c' := by
  simp only [msgC, List.cons.injEq, Value.slice.injEq] at h
  exact ⟨h.2.2.2.2.2.2.2.2.2.2.2.2.2.2.2.2.2.2.2.2.2.2.1.1, h.2.2.2.2.2.2.2.2.2.2.2.2.2.2.2.2.2.2.2.2.2.2.1.2.2⟩
theorem BytesAt.take {p : Option Addr} {ys : List Int} (h : BytesAt w p ys) (k : Nat) : BytesAt w p (ys.take k) := fun j y hj => h j y (by
  rw [List.getElem?_take] at hj
  split at hj
  · exact hj
  · cases hj)
theorem BytesAt.zero {p : Option Addr} {ys : List Int} (h : BytesAt w p ys) (c : Nat) : BytesAt w (if c = 0 then p else p.map (·.add 0)) ys := fun j y hj => by
  obtain ⟨ad, rfl, hc⟩ := h j y hj
  split
  · exact ⟨ad, rfl, hc⟩
  · exact ⟨_, rfl, by rw [add0]; exact hc⟩
/-- The slices of the messages' bytes have room for these. -/
def Caps (w : World) (p : Option Addr) (ms : List Msg) : Prop := ∀ (j : Nat) (m : Msg) q cq ad, ms[j]? = some m → p = some ad → cellsAt w (ad.add (j * 23)) 23 = some (msgC m q cq) → m.bytes.length ≤ cq
theorem cut_cells (m : Msg) (q q' : Option Addr) (cq cq' : Nat) : (msgC m q cq).toArray.setIfInBounds 22 (.slice q' (m.bytes.take 2000).length cq') = (msgC (cut 2000 m) q' cq').toArray := rfl
end Go.Proofs.YtipikchkbmgloaaDoor
/- message's law 10: a message has as many bits as its kind.  Conditions: the message may be read. -/
namespace Go.Proofs.YtipikchkbmgloaaDoor
set_option linter.unusedSimpArgs false
set_option linter.unusedVariables false
open Go Go.RowKit VC
def tbl (n : Int) : List Int := [0, 0, 37, 71, 0, 31, 208, 47, 20, n]
theorem tbl_get {m : Msg} (h : known m = true) : ∃ k : Nat, m.kind = k ∧ k < 10 ∧ (tbl (74 + 8 * m.bytes.length))[k]? = some ((fieldBits m).length : Int) := by
  have hk := known_iff.1 h
  have hv : ∀ (l : List Int) (k : Nat), (vecB l k).length = l.length * k := by
    intro l k
    induction l with
    | nil => simp [vecB]
    | cons y l ih => simp only [vecB, List.flatMap_cons, List.length_append] at ih ⊢; rw [ih]; simp only [vecBits, bitsOf_length, List.length_cons, Nat.succ_mul]; omega
  refine ⟨m.kind.toNat, by omega, by omega, ?_⟩
  have hc : m.kind = 1 ∨ m.kind = 2 ∨ m.kind = 3 ∨ m.kind = 4 ∨ m.kind = 5 ∨ m.kind = 6 ∨ m.kind = 7 ∨ m.kind = 8 ∨ m.kind = 9 := by omega
  unfold fieldBits
  rcases hc with e | e | e | e | e | e | e | e | e <;> rw [e] <;>
    simp [tbl, cmdBits, numBits, sgnBits, bitsOf_length, hv, byteBits_length]
  omega
theorem first5 : ∀ y : Fin 256, (bitsOf (IntKind.u64.wrap (y.val : Int)) 8).take 5 = bitsOf 1 5 → (y.val : Int).fdiv 8 = 1 := by decide +kernel
theorem first_byte {bs : List Int} (hb : ∀ b ∈ bs, Bit b) (h : bs.take 5 = bitsOf 1 5) : ∃ y rest, pack bs = y :: rest ∧ y.fdiv 8 = 1 := by
  have hl : 5 ≤ bs.length := by
    have := congrArg List.length h
    rw [List.length_take, bitsOf_length] at this; omega
  have hp := byteBits_pack bs hb
  have hpl := pack_length bs
  cases hc : pack bs with
  | nil => rw [hc] at hpl; simp at hpl; omega
  | cons y rest =>
    refine ⟨y, rest, rfl, ?_⟩
    have hr := pack_range bs y (by rw [hc]; simp)
    obtain ⟨n, rfl⟩ : ∃ n : Nat, y = n := ⟨y.toNat, by omega⟩
    refine first5 ⟨n, by omega⟩ ?_
    rw [hc] at hp
    simp only [byteBits, List.flatMap_cons] at hp
    have h5 := congrArg (List.take 5) hp
    rw [List.take_append_of_le_length (by rw [bitsOf_length]; omega), List.take_append_of_le_length hl, h] at h5
    exact h5
variable {w : World}
theorem oneM {w : World} {m : Msg} {q : Option Addr} {cq g N : Nat} (h : w.heap[g]? = some (.cells (msgC m q cq).toArray 53 (0, 0))) (hb : BytesAt w q m.bytes) (hN : ∀ ad, q = some ad → m.bytes ≠ [] → ad.block < w.heap.size) : MsgsAt w w.heap.size (some ⟨g, 0, none⟩) [m] := by
  intro j x hj
  obtain rfl : j = 0 := by have := (List.getElem?_eq_some_iff.1 hj).1; simp at this; omega
  simp at hj; subst hj
  refine ⟨_, q, cq, rfl, lt_of_blk h, ?_, hb, hN⟩
  rw [Nat.zero_mul]
  exact cells_all h rfl
theorem BytesAt.lt {q : Option Addr} {ys : List Int} (h : BytesAt w q ys) : ∀ ad, q = some ad → ys ≠ [] → ad.block < w.heap.size := by
  intro ad e hne
  cases ys with
  | nil => exact absurd rfl hne
  | cons y l =>
    obtain ⟨ad', e', hc⟩ := h 0 y rfl
    rw [e] at e'; cases e'
    have := World.block_lt_of_cell? w _ hc
    rw [add_block] at this; exact this
end Go.Proofs.YtipikchkbmgloaaDoor
/- The conditions of functions, written out: printed by a small program (VCDev.lean, vcgen.sh).  Conditions: none. -/
namespace Go.Proofs.YtipikchkbmgloaaDoor
set_option linter.unusedSimpArgs false
set_option linter.unusedVariables false
open Go VC
theorem vc26 (ap : Option Addr) (an : Nat) (ac : Nat) (w : World) (R : Value → World → Prop)
  (h : loopC (alist [((4 : Nat), Value.int IntKind.i64 (0 : Int))]) w fun u0 u1 => ∀ (u2 : Nat → Value) (w3 : World), u0 (alist [((4 : Nat), u2 (4 : Nat))]) w3 → isK IntKind.i64 (u2 (4 : Nat)) fun i5 => br (decide (i5 < (↑an : Int))) (isK IntKind.i64 (u2 (4 : Nat)) fun i6 => rd ap fun a7 => ((0 : Int) ≤ i6 ∧ i6 < (↑an : Int)) ∧ rd (cellsAt w3 (Addr.add a7 (Int.toNat i6 * (23 : Nat))) (23 : Nat)) fun l8 => callV Tryd.prog (50 : Nat) [Value.agg (List.toArray l8)] w3 fun v9 w10 => isB v9 fun t11 => br (!t11) (R (Value.tuple #[Value.string { data := #[] : ByteArray }, Value.int IntKind.i64 (1 : Int)]) w10) (isK IntKind.i64 (u2 (4 : Nat)) fun i12 => again u0 u1 (alist [((4 : Nat), Value.int IntKind.i64 (IntKind.wrap IntKind.i64 (i12 + (1 : Int))))]) w10 (alist [((4 : Nat), u2 (4 : Nat))]) w3)) (br (decide ((16 : Int) < (↑an : Int))) (R (Value.tuple #[Value.string { data := #[] : ByteArray }, Value.int IntKind.i64 (5 : Int)]) w3) (callV Tryd.prog (51 : Nat) [Value.slice ap an ac] w3 fun v13 w14 => isStr v13 fun x15 => br (decide ((1024 : Int) < (↑(ByteArray.size x15) : Int))) (R (Value.tuple #[Value.string { data := #[] : ByteArray }, Value.int IntKind.i64 (5 : Int)]) w14) (R (Value.tuple #[Value.string x15, Value.int IntKind.i64 (0 : Int)]) w14)))) :
  callV Tryd.prog 26 [Value.slice ap an ac] w R :=
  vc_of hm ⟨fun _ => false, fun _ => .done, fun n => match n with | 2 => [4] | _ => []⟩ Tryd.func26 ent26 (by kernel_rfl) h

theorem vc51 (ap : Option Addr) (an : Nat) (ac : Nat) (w : World) (R : Value → World → Prop)
  (h : callV Tryd.prog (77 : Nat) [Value.int IntKind.u64 (IntKind.wrap IntKind.u64 (↑an : Int)), Value.int IntKind.i64 (5 : Int)] w fun v0 w1 => isStr v0 fun x2 => loopC (alist [((3 : Nat), Value.string x2), ((4 : Nat), Value.int IntKind.i64 (0 : Int))]) w1 fun u3 u4 => ∀ (u5 : Nat → Value) (w6 : World), u3 (alist [((3 : Nat), u5 (3 : Nat)), ((4 : Nat), u5 (4 : Nat))]) w6 → isK IntKind.i64 (u5 (4 : Nat)) fun i8 => br (decide (i8 < (↑an : Int))) (isStr (u5 (3 : Nat)) fun x9 => isK IntKind.i64 (u5 (4 : Nat)) fun i10 => rd ap fun a11 => ((0 : Int) ≤ i10 ∧ i10 < (↑an : Int)) ∧ rd (cellsAt w6 (Addr.add a11 (Int.toNat i10 * (23 : Nat))) (23 : Nat)) fun l12 => callV Tryd.prog (78 : Nat) [Value.agg (List.toArray l12)] w6 fun v13 w14 => isStr v13 fun x15 => rd (orO (binV BinOp.add (Value.string x9) (Value.string x15)) none) fun v16 => isStr v16 fun x17 => isK IntKind.i64 (u5 (4 : Nat)) fun i18 => again u3 u4 (alist [((3 : Nat), Value.string x17), ((4 : Nat), Value.int IntKind.i64 (IntKind.wrap IntKind.i64 (i18 + (1 : Int))))]) w14 (alist [((3 : Nat), u5 (3 : Nat)), ((4 : Nat), u5 (4 : Nat))]) w6) (isStr (u5 (3 : Nat)) fun x19 => callV Tryd.prog (79 : Nat) [Value.string x19] w6 fun v20 w21 => isStr v20 fun x22 => R (Value.string x22) w21)) :
  callV Tryd.prog 51 [Value.slice ap an ac] w R :=
  vc_of hm ⟨fun _ => false, fun _ => .done, fun n => match n with | 3 => [3, 4] | _ => []⟩ Tryd.func51 ent51 (by kernel_rfl) h

theorem vc76 (a0 : Int) (a1 : Int) (a2 : Int) (b : Int) (c : Int) (w : World) (R : Value → World → Prop)
  (h : allocC w (Obj.cells #[Value.int IntKind.i64 a0, Value.int IntKind.i64 a1, Value.int IntKind.i64 a2] (51 : Nat)) fun n0 w1 => rd (World.cell? w1 { block := n0, off := (0 : Nat) : Addr }) fun v2 => isK IntKind.i64 v2 fun i3 => rd (World.cell? w1 { block := n0, off := (1 : Nat) : Addr }) fun v4 => isK IntKind.i64 v4 fun i5 => rd (World.cell? w1 { block := n0, off := (2 : Nat) : Addr }) fun v6 => isK IntKind.i64 v6 fun i7 => runs Tryd.prog (Builtin.min_ #[(2 : Nat), (2 : Nat), (2 : Nat)] (2 : Nat) #[Value.int IntKind.i64 i3, Value.int IntKind.i64 i5, Value.int IntKind.i64 i7]) w1 fun v8 w9 => isK IntKind.i64 v8 fun i10 => br (decide (b ≤ i10)) (rd (World.cell? w9 { block := n0, off := (0 : Nat) : Addr }) fun v11 => isK IntKind.i64 v11 fun i12 => rd (World.cell? w9 { block := n0, off := (1 : Nat) : Addr }) fun v13 => isK IntKind.i64 v13 fun i14 => rd (World.cell? w9 { block := n0, off := (2 : Nat) : Addr }) fun v15 => isK IntKind.i64 v15 fun i16 => runs Tryd.prog (Builtin.max_ #[(2 : Nat), (2 : Nat), (2 : Nat)] (2 : Nat) #[Value.int IntKind.i64 i12, Value.int IntKind.i64 i14, Value.int IntKind.i64 i16]) w9 fun v17 w18 => isK IntKind.i64 v17 fun i19 => R (Value.bool (decide (i19 ≤ c))) w18) (R (Value.bool false) w9)) :
  callV Tryd.prog 76 [Value.agg #[Value.int IntKind.i64 a0, Value.int IntKind.i64 a1, Value.int IntKind.i64 a2], Value.int IntKind.i64 b, Value.int IntKind.i64 c] w R :=
  vc_of hm noHints Tryd.func76 ent76 (by kernel_rfl) h

theorem vc56 (a : ByteArray) (w : World) (R : Value → World → Prop)
  (h : loopC (alist [((3 : Nat), Value.string { data := #[] : ByteArray }), ((4 : Nat), Value.int IntKind.i64 (0 : Int))]) w fun u0 u1 => ∀ (u2 : Nat → Value) (w3 : World), u0 (alist [((3 : Nat), u2 (3 : Nat)), ((4 : Nat), u2 (4 : Nat))]) w3 → isK IntKind.i64 (u2 (4 : Nat)) fun i5 => br (decide (i5 < (↑(ByteArray.size a) : Int))) (isStr (u2 (3 : Nat)) fun x6 => isK IntKind.i64 (u2 (4 : Nat)) fun i7 => runs Tryd.prog (Instr.index (9 : Nat) (Value.string a) (Value.int IntKind.i64 i7)) w3 fun v8 w9 => isK IntKind.u8 v8 fun i10 => callV Tryd.prog (77 : Nat) [Value.int IntKind.u64 (IntKind.wrap IntKind.u64 i10), Value.int IntKind.i64 (8 : Int)] w9 fun v11 w12 => isStr v11 fun x13 => rd (orO (binV BinOp.add (Value.string x6) (Value.string x13)) none) fun v14 => isStr v14 fun x15 => isK IntKind.i64 (u2 (4 : Nat)) fun i16 => again u0 u1 (alist [((3 : Nat), Value.string x15), ((4 : Nat), Value.int IntKind.i64 (IntKind.wrap IntKind.i64 (i16 + (1 : Int))))]) w12 (alist [((3 : Nat), u2 (3 : Nat)), ((4 : Nat), u2 (4 : Nat))]) w3) (isStr (u2 (3 : Nat)) fun x17 => R (Value.string x17) w3)) :
  callV Tryd.prog 56 [Value.string a] w R :=
  vc_of hm ⟨fun _ => false, fun _ => .done, fun n => match n with | 3 => [3, 4] | _ => []⟩ Tryd.func56 ent56 (by kernel_rfl) h

theorem vc77 (a : Int) (b : Int) (w : World) (R : Value → World → Prop)
  (h : loopC (alist [((0 : Nat), Value.int IntKind.u64 a), ((5 : Nat), Value.string { data := #[] : ByteArray }), ((6 : Nat), Value.int IntKind.i64 (0 : Int))]) w fun u0 u1 => ∀ (u2 : Nat → Value) (w3 : World), u0 (alist [((0 : Nat), u2 (0 : Nat)), ((5 : Nat), u2 (5 : Nat)), ((6 : Nat), u2 (6 : Nat))]) w3 → isK IntKind.i64 (u2 (6 : Nat)) fun i5 => callV Tryd.prog (90 : Nat) [Value.int IntKind.i64 b] w3 fun v6 w7 => isK IntKind.i64 v6 fun i8 => br (decide (i5 < i8)) (isK IntKind.u64 (u2 (0 : Nat)) fun i9 => runs Tryd.prog (Instr.buildSlice (25 : Nat) (1 : Nat) #[((0 : Nat), Value.int IntKind.u8 (IntKind.wrap IntKind.u8 (IntKind.wrap IntKind.u64 ((48 : Int) + Int.tmod i9 (2 : Int)))))]) w7 fun v10 w11 => isSl v10 fun o12 n13 n14 => runs Tryd.prog (convert (25 : Nat) (9 : Nat) (Value.slice o12 n13 n14)) w11 fun v15 w16 => isStr v15 fun x17 => isStr (u2 (5 : Nat)) fun x18 => rd (orO (binV BinOp.add (Value.string x17) (Value.string x18)) none) fun v19 => isStr v19 fun x20 => isK IntKind.u64 (u2 (0 : Nat)) fun i21 => isK IntKind.i64 (u2 (6 : Nat)) fun i22 => again u0 u1 (alist [((0 : Nat), Value.int IntKind.u64 (IntKind.wrap IntKind.u64 (Int.tdiv i21 (2 : Int)))), ((5 : Nat), Value.string x20), ((6 : Nat), Value.int IntKind.i64 (IntKind.wrap IntKind.i64 (i22 + (1 : Int))))]) w16 (alist [((0 : Nat), u2 (0 : Nat)), ((5 : Nat), u2 (5 : Nat)), ((6 : Nat), u2 (6 : Nat))]) w3) (isStr (u2 (5 : Nat)) fun x23 => R (Value.string x23) w7)) :
  callV Tryd.prog 77 [Value.int IntKind.u64 a, Value.int IntKind.i64 b] w R :=
  vc_of hm ⟨fun _ => false, fun _ => .done, fun n => match n with | 3 => [0, 5, 6] | _ => []⟩ Tryd.func77 ent77 (by kernel_rfl) h

theorem vc79 (a : ByteArray) (w : World) (R : Value → World → Prop)
  (h : loopC (alist [((0 : Nat), Value.string a)]) w fun u0 u1 => ∀ (u2 : Nat → Value) (w3 : World), u0 (alist [((0 : Nat), u2 (0 : Nat))]) w3 → isStr (u2 (0 : Nat)) fun x5 => br (!decide (Int.tmod (↑(ByteArray.size x5) : Int) (8 : Int) = (0 : Int))) (isStr (u2 (0 : Nat)) fun x6 => rd (orO (binV BinOp.add (Value.string x6) (Value.string { data := #[(48 : UInt8)] : ByteArray })) none) fun v7 => isStr v7 fun x8 => again u0 u1 (alist [((0 : Nat), Value.string x8)]) w3 (alist [((0 : Nat), u2 (0 : Nat))]) w3) (loopC (alist [((3 : Nat), Value.string { data := #[] : ByteArray }), ((4 : Nat), Value.int IntKind.i64 (0 : Int))]) w3 fun u9 u10 => ∀ (u11 : Nat → Value) (w12 : World), u9 (alist [((3 : Nat), u11 (3 : Nat)), ((4 : Nat), u11 (4 : Nat))]) w12 → isK IntKind.i64 (u11 (4 : Nat)) fun i14 => isStr (u2 (0 : Nat)) fun x15 => br (decide (i14 < (↑(ByteArray.size x15) : Int))) (isStr (u11 (3 : Nat)) fun x16 => isStr (u2 (0 : Nat)) fun x17 => isK IntKind.i64 (u11 (4 : Nat)) fun i18 => isK IntKind.i64 (u11 (4 : Nat)) fun i19 => runs Tryd.prog (Instr.sliceAt (9 : Nat) (Value.string x17) (some (Value.int IntKind.i64 i18)) (some (Value.int IntKind.i64 (IntKind.wrap IntKind.i64 (i19 + (8 : Int))))) none) w12 fun v20 w21 => isStr v20 fun x22 => callV Tryd.prog (84 : Nat) [Value.string x22] w21 fun v23 w24 => isK IntKind.u64 v23 fun i25 => runs Tryd.prog (Instr.buildSlice (25 : Nat) (1 : Nat) #[((0 : Nat), Value.int IntKind.u8 (IntKind.wrap IntKind.u8 i25))]) w24 fun v26 w27 => isSl v26 fun o28 n29 n30 => runs Tryd.prog (convert (25 : Nat) (9 : Nat) (Value.slice o28 n29 n30)) w27 fun v31 w32 => isStr v31 fun x33 => rd (orO (binV BinOp.add (Value.string x16) (Value.string x33)) none) fun v34 => isStr v34 fun x35 => isK IntKind.i64 (u11 (4 : Nat)) fun i36 => again u9 u10 (alist [((3 : Nat), Value.string x35), ((4 : Nat), Value.int IntKind.i64 (IntKind.wrap IntKind.i64 (i36 + (8 : Int))))]) w32 (alist [((3 : Nat), u11 (3 : Nat)), ((4 : Nat), u11 (4 : Nat))]) w12) (isStr (u11 (3 : Nat)) fun x37 => R (Value.string x37) w12))) :
  callV Tryd.prog 79 [Value.string a] w R :=
  vc_of hm ⟨fun _ => false, fun _ => .done, fun n => match n with | 2 => [0] | 5 => [3, 4] | _ => []⟩ Tryd.func79 ent79 (by kernel_rfl) h

theorem vc84 (a : ByteArray) (w : World) (R : Value → World → Prop)
  (h : loopC (alist [((3 : Nat), Value.int IntKind.u64 (0 : Int)), ((4 : Nat), Value.int IntKind.i64 (0 : Int))]) w fun u0 u1 => ∀ (u2 : Nat → Value) (w3 : World), u0 (alist [((3 : Nat), u2 (3 : Nat)), ((4 : Nat), u2 (4 : Nat))]) w3 → isK IntKind.i64 (u2 (4 : Nat)) fun i5 => br (decide (i5 < (↑(ByteArray.size a) : Int))) (isK IntKind.u64 (u2 (3 : Nat)) fun i6 => isK IntKind.i64 (u2 (4 : Nat)) fun i7 => runs Tryd.prog (Instr.index (9 : Nat) (Value.string a) (Value.int IntKind.i64 i7)) w3 fun v8 w9 => isK IntKind.u8 v8 fun i10 => isK IntKind.i64 (u2 (4 : Nat)) fun i11 => again u0 u1 (alist [((3 : Nat), Value.int IntKind.u64 (IntKind.wrap IntKind.u64 (IntKind.wrap IntKind.u64 (i6 * (2 : Int)) + IntKind.wrap IntKind.u64 (IntKind.wrap IntKind.u8 (i10 - (48 : Int)))))), ((4 : Nat), Value.int IntKind.i64 (IntKind.wrap IntKind.i64 (i11 + (1 : Int))))]) w9 (alist [((3 : Nat), u2 (3 : Nat)), ((4 : Nat), u2 (4 : Nat))]) w3) (isK IntKind.u64 (u2 (3 : Nat)) fun i12 => R (Value.int IntKind.u64 i12) w3)) :
  callV Tryd.prog 84 [Value.string a] w R :=
  vc_of hm ⟨fun _ => false, fun _ => .done, fun n => match n with | 3 => [3, 4] | _ => []⟩ Tryd.func84 ent84 (by kernel_rfl) h

theorem vc90 (a : Int) (w : World) (R : Value → World → Prop)
  (h : R (Value.int IntKind.i64 (max (0 : Int) (min a (64 : Int)))) w) :
  callV Tryd.prog 90 [Value.int IntKind.i64 a] w R :=
  vc_of hm noHints Tryd.func90 ent90 (by kernel_rfl) h

theorem vc91 (a0 : Int) (a1 : Int) (a2 : Int) (b : Int) (w : World) (R : Value → World → Prop)
  (h : allocC w (Obj.cells #[Value.int IntKind.i64 a0, Value.int IntKind.i64 a1, Value.int IntKind.i64 a2] (51 : Nat)) fun n0 w1 => heldC (World.drew w1) fun u2 => (∀ (w3 : World), u2 w3 → Value.pointer (some { block := n0, off := (0 : Nat) : Addr }) = Value.pointer (some { block := n0, off := (0 : Nat) : Addr }) ∧ w3 = w3) ∧ rd (World.cell? (World.drew w1) { block := n0, off := (0 : Nat) : Addr }) fun v5 => (∀ (w6 : World), u2 w6 → rd (World.cell? w6 { block := n0, off := (0 : Nat) : Addr }) fun v8 => v8 = v5 ∧ w6 = w6) ∧ isK IntKind.i64 v5 fun i9 => (∀ (w10 : World), u2 w10 → Value.int IntKind.u64 (IntKind.wrap IntKind.u64 i9) = Value.int IntKind.u64 (IntKind.wrap IntKind.u64 i9) ∧ w10 = w10) ∧ (∀ (w12 : World), u2 w12 → Value.int IntKind.i64 b = Value.int IntKind.i64 b ∧ w12 = w12) ∧ (∀ (w14 : World), u2 w14 → Value.pointer (some { block := n0, off := (1 : Nat) : Addr }) = Value.pointer (some { block := n0, off := (1 : Nat) : Addr }) ∧ w14 = w14) ∧ rd (World.cell? (World.drew w1) { block := n0, off := (1 : Nat) : Addr }) fun v16 => (∀ (w17 : World), u2 w17 → rd (World.cell? w17 { block := n0, off := (1 : Nat) : Addr }) fun v19 => v19 = v16 ∧ w17 = w17) ∧ isK IntKind.i64 v16 fun i20 => (∀ (w21 : World), u2 w21 → Value.int IntKind.u64 (IntKind.wrap IntKind.u64 i20) = Value.int IntKind.u64 (IntKind.wrap IntKind.u64 i20) ∧ w21 = w21) ∧ (∀ (w23 : World), u2 w23 → Value.int IntKind.i64 b = Value.int IntKind.i64 b ∧ w23 = w23) ∧ (∀ (w25 : World), u2 w25 → Value.pointer (some { block := n0, off := (2 : Nat) : Addr }) = Value.pointer (some { block := n0, off := (2 : Nat) : Addr }) ∧ w25 = w25) ∧ rd (World.cell? (World.drew w1) { block := n0, off := (2 : Nat) : Addr }) fun v27 => (∀ (w28 : World), u2 w28 → rd (World.cell? w28 { block := n0, off := (2 : Nat) : Addr }) fun v30 => v30 = v27 ∧ w28 = w28) ∧ isK IntKind.i64 v27 fun i31 => (∀ (w32 : World), u2 w32 → Value.int IntKind.u64 (IntKind.wrap IntKind.u64 i31) = Value.int IntKind.u64 (IntKind.wrap IntKind.u64 i31) ∧ w32 = w32) ∧ (∀ (w34 : World), u2 w34 → Value.int IntKind.i64 b = Value.int IntKind.i64 b ∧ w34 = w34) ∧ callV Tryd.prog (77 : Nat) [Value.int IntKind.u64 (IntKind.wrap IntKind.u64 i9), Value.int IntKind.i64 b] (World.drew w1) fun v36 w37 => isStr v36 fun x38 => u2 w37 ∧ callV Tryd.prog (77 : Nat) [Value.int IntKind.u64 (IntKind.wrap IntKind.u64 i20), Value.int IntKind.i64 b] w37 fun v39 w40 => isStr v39 fun x41 => u2 w40 ∧ rd (orO (binV BinOp.add (Value.string x38) (Value.string x41)) none) fun v42 => (∀ (w43 : World), u2 w43 → rd (orO (binV BinOp.add (Value.string x38) (Value.string x41)) none) fun v45 => v45 = v42 ∧ w43 = w43) ∧ isStr v42 fun x46 => callV Tryd.prog (77 : Nat) [Value.int IntKind.u64 (IntKind.wrap IntKind.u64 i31), Value.int IntKind.i64 b] w40 fun v47 w48 => isStr v47 fun x49 => u2 w48 ∧ rd (orO (binV BinOp.add (Value.string x46) (Value.string x49)) none) fun v50 => (∀ (w51 : World), u2 w51 → rd (orO (binV BinOp.add (Value.string x46) (Value.string x49)) none) fun v53 => v53 = v50 ∧ w51 = w51) ∧ isStr v50 fun x54 => (∀ (w55 : World), u2 w55 → Value.string x54 = Value.string x54 ∧ w55 = w55) ∧ R (Value.string x54) w48) :
  callV Tryd.prog 91 [Value.agg #[Value.int IntKind.i64 a0, Value.int IntKind.i64 a1, Value.int IntKind.i64 a2], Value.int IntKind.i64 b] w R :=
  vc_of hm ⟨fun _ => false, fun n => match n with | 1 => .take 0 (.take 1 (.take 2 (.take 3 (.take 5 (.take 6 (.take 7 (.take 8 (.take 11 (.take 12 (.take 13 (.take 14 (.one 4 (.one 9 (.take 10 (.one 15 (.take 16 (.take 17 (.done)))))))))))))))))) | _ => .done, fun _ => []⟩ Tryd.func91 ent91 (by kernel_rfl) h

end Go.Proofs.YtipikchkbmgloaaDoor
/- the reference's texts of bits: Text, Number, Of, Bytes.  Conditions: the texts are of bits; at most sixty-four, or a million. -/
namespace Go.Proofs.YtipikchkbmgloaaDoor
set_option linter.unusedSimpArgs false
set_option linter.unusedVariables false
open Go Go.RowKit VC
/-- Bits as a text. -/
def txt (bs : List Int) : ByteArray := strOfNums (bs.map (48 + ·))
theorem strOfNums_app (xs ys : List Int) : strOfNums xs ++ strOfNums ys = strOfNums (xs ++ ys) := by
  unfold strOfNums
  rw [ByteArray.mk_append_mk, List.map_append]
theorem txt_app (xs ys : List Int) : txt xs ++ txt ys = txt (xs ++ ys) := by unfold txt; rw [strOfNums_app, List.map_append]
theorem txt_size (bs : List Int) : (txt bs).size = bs.length := by unfold txt; rw [strOfNums_size, List.length_map]
theorem bv_cat {a b : ByteArray} (h : a.size + b.size ≤ 9223372036854775807) : binV .add (.string a) (.string b) = some (.string (a ++ b)) := catS_of h
theorem txt_r {bs : List Int} (h : ∀ b ∈ bs, Bit b) : ∀ y ∈ bs.map (48 + ·), 0 ≤ y ∧ y < 256 := by
  intro y hy
  obtain ⟨b, hb, rfl⟩ := List.mem_map.1 hy
  have := h b hb
  unfold Bit at this
  omega
theorem emptyS : ({ data := #[] } : ByteArray) = txt [] := rfl
variable {w : World}
theorem cat_txt {K : Value → Prop} {xs ys : List Int} (h : xs.length + ys.length ≤ 1000000000) (k : K (.string (txt (xs ++ ys)))) : rd (orO (binV .add (.string (txt xs)) (.string (txt ys))) none) K := by
  rw [bv_cat (by rw [txt_size, txt_size]; omega), txt_app]
  exact k
theorem count61_c (k : Nat) (hk : k ≤ 64) : callV Tryd.prog 90 [.int .i64 k] w fun v w' => v = .int .i64 k ∧ w' = w := by
  refine vc90 k w _ ⟨?_, rfl⟩
  congr 1; omega
set_option maxRecDepth 20000 in
theorem text47_c (m k : Nat) (hm : m < 18446744073709551616) (hk : k ≤ 64) : callV Tryd.prog 77 [.int .u64 m, .int .i64 k] w fun v w' => v = .string (txt (bitsOf (m : Int) k)) ∧ Fm none' w w' := by
  refine vc77 m k w _ ?_
  refine ⟨fun u w' => ∃ i : Nat, i ≤ k ∧ u 0 = .int .u64 ((m / 2 ^ i : Nat) : Int) ∧ u 5 = .string (txt (bitsOf (m : Int) i)) ∧ u 6 = .int .i64 i ∧ Fm none' w w', fun u _ => k - (intOf (u 6)).toNat, ⟨0, by omega, by simp [alist], rfl, rfl, Fm.refl _ _⟩, ?_⟩
  rintro u w3 ⟨i, hi, h0, h5, h6, hF⟩
  change u 0 = _ at h0
  change u 5 = _ at h5
  change u 6 = _ at h6
  simp only [h0, h5, h6, vcs, eqV, nilV, Option.map_some, Nat.mul_one, implies_true, true_and, and_true, and_self]
  refine (count61_c k hk).mono ?_
  rintro _ w7 ⟨rfl, rfl⟩
  simp only [vcs, eqV, nilV, Option.map_some, Nat.mul_one, implies_true, true_and, and_true, and_self]
  refine br_dec (fun hik => ?_) (fun hik => ?_)
  · have hb : bitAt (m : Int) i = ((m / 2 ^ i % 2 : Nat) : Int) := by rw [bitAt_nat _ _ (by omega), Nat.toNat_testBit]
    have ht : Int.tmod ((m / 2 ^ i : Nat) : Int) 2 = ((m / 2 ^ i % 2 : Nat) : Int) := by rw [Int.tmod_eq_emod_of_nonneg (Int.natCast_nonneg _)]; norm_cast
    have hd : Int.tdiv ((m / 2 ^ i : Nat) : Int) 2 = ((m / 2 ^ (i + 1) : Nat) : Int) := by
      rw [Int.tdiv_eq_ediv_of_nonneg (Int.natCast_nonneg _), Nat.pow_succ, ← Nat.div_div_eq_div_mul]; norm_cast
    have hlt : m / 2 ^ (i + 1) ≤ m := Nat.div_le_self _ _
    rw [ht, hd, u64n (by omega), w64 (by omega)]
    rw [show (48 : Int) + ((m / 2 ^ i % 2 : Nat) : Int) = ((48 + m / 2 ^ i % 2 : Nat) : Int) by push_cast; rfl, u64n (by omega), u8n (by omega)]
    refine build_1 (by rw [row25]) row5 rfl rfl fun w11 hb11 hs11 hf11 => ?_
    simp only [vcs, eqV, nilV, Option.map_some, Nat.mul_one, implies_true, true_and, and_true, and_self]
    refine conv_bytes (ys := [((48 + m / 2 ^ i % 2 : Nat) : Int)]) (by rw [row25]) (by rw [row5]) (by rw [row9]) rfl (fun j y hj => ?_) ?_
    · obtain rfl : j = 0 := by have := (List.getElem?_eq_some_iff.1 hj).1; simp at this; omega
      simp at hj; subst hj
      exact ⟨_, rfl, cellOf hb11 (by simp)⟩
    simp only [vcs, eqV, nilV, Option.map_some, Nat.mul_one, implies_true, true_and, and_true, and_self]
    have e1 : strOfNums [((48 + m / 2 ^ i % 2 : Nat) : Int)] = txt [bitAt (m : Int) i] := by
      unfold txt; rw [hb]; simp
    rw [e1]
    refine cat_txt (by simp [bitsOf_length]; omega) ?_
    simp only [vcs, eqV, nilV, Option.map_some, Nat.mul_one, implies_true, true_and, and_true, and_self]
    refine ⟨⟨i + 1, by omega, rfl, ?_, rfl, hF.trans hf11⟩, ?_⟩
    · show Value.string _ = _
      rw [bitsOf_succ]; rfl
    · show k - ((i : Int) + 1).toNat < k - (i : Int).toNat; omega
  · obtain rfl : i = k := by omega
    exact ⟨rfl, hF⟩
theorem val_take_succ {bs : List Int} {j : Nat} {b : Int} (h : bs[j]? = some b) : val (bs.take (j + 1)) = 2 * val (bs.take j) + b := by
  rw [List.take_add_one, h]
  exact val_snoc _ _
set_option maxRecDepth 20000 in
theorem number55_c {bs : List Int} (hb : ∀ b ∈ bs, Bit b) (hl : bs.length ≤ 64) : callV Tryd.prog 84 [.string (txt bs)] w fun v w' => v = .int .u64 (val bs) ∧ Fm none' w w' := by
  refine vc84 _ w _ ?_
  rw [txt_size]
  refine ⟨fun u w' => ∃ j : Nat, j ≤ bs.length ∧ u 3 = .int .u64 (val (bs.take j)) ∧ u 4 = .int .i64 j ∧ Fm none' w w', fun u _ => bs.length - (intOf (u 4)).toNat, ⟨0, by omega, rfl, rfl, Fm.refl _ _⟩, ?_⟩
  rintro u w3 ⟨j, hj, h3, h4, hF⟩
  change u 3 = _ at h3
  change u 4 = _ at h4
  simp only [h3, h4, vcs, eqV, nilV, Option.map_some, Nat.mul_one, implies_true, true_and, and_true, and_self]
  refine br_dec (fun hjl => ?_) (fun hjl => ?_)
  · obtain ⟨b, hbj⟩ : ∃ b, bs[j]? = some b := ⟨bs[j]'(by omega), by simp⟩
    have hbb := hb b (List.mem_of_getElem? hbj)
    refine index_str (ys := bs.map (48 + ·)) (by rw [row9]) (txt_r hb) (by rw [List.getElem?_map, hbj]; rfl) ?_
    simp only [vcs, eqV, nilV, Option.map_some, Nat.mul_one, implies_true, true_and, and_true, and_self]
    have hv := val_take_succ hbj
    have hlt := val_bound (bs := bs.take (j + 1)) fun x hx => hb x (List.mem_of_mem_take hx)
    have hl1 : (bs.take (j + 1)).length = j + 1 := by rw [List.length_take]; omega
    rw [hl1] at hlt
    have hpw : (2 : Int) ^ (j + 1) ≤ 18446744073709551616 := by
      have : (2 : Nat) ^ (j + 1) ≤ 2 ^ 64 := Nat.pow_le_pow_right (by omega) (by omega)
      have h64 : (2 : Nat) ^ 64 = 18446744073709551616 := rfl
      rw [h64] at this
      have h2 := Int.ofNat_le.2 this
      rw [Int.natCast_pow] at h2
      exact h2
    have h0 := (val_bound (bs := bs.take j) fun x hx => hb x (List.mem_of_mem_take hx)).1
    have e1 : IntKind.u8.wrap (48 + b - 48) = b := by rcases hbb with rfl | rfl <;> rfl
    unfold Bit at hbb
    rw [e1, u64w b, u64w (val (bs.take j) * 2), u64w, w64 (by omega)]
    refine ⟨⟨j + 1, by omega, ?_, rfl, hF⟩, ?_⟩
    · show Value.int _ _ = Value.int _ _
      congr 1
      rw [hv]
      omega
    · show bs.length - ((j : Int) + 1).toNat < bs.length - (j : Int).toNat; omega
  · have : j = bs.length := by omega
    subst this
    rw [List.take_length]
    exact ⟨rfl, hF⟩
end Go.Proofs.YtipikchkbmgloaaDoor
/- The conditions of functions, written out: printed by a small program (VCDev.lean, vcgen.sh).  Conditions: none. -/
namespace Go.Proofs.YtipikchkbmgloaaDoor
set_option linter.unusedSimpArgs false
set_option linter.unusedVariables false
open Go VC
theorem vc50 (a0 : Int) (a1 : Int) (a20 : Int) (a21 : Int) (a22 : Int) (a23 : Int) (a24 : Int) (a3 : Int) (a4 : Int) (a5 : Int) (a60 : Int) (a61 : Int) (a62 : Int) (a7 : Int) (a80 : Int) (a81 : Int) (a82 : Int) (a90 : Int) (a91 : Int) (a92 : Int) (a10 : Int) (a11 : Int) (a12p : Option Addr) (a12n : Nat) (a12c : Nat) (w : World) (R : Value → World → Prop)
  (h : allocC w (Obj.cells #[Value.int IntKind.i64 a0, Value.int IntKind.u16 a1, Value.int IntKind.u16 a20, Value.int IntKind.u8 a21, Value.int IntKind.i8 a22, Value.int IntKind.i8 a23, Value.int IntKind.i64 a24, Value.int IntKind.u16 a3, Value.int IntKind.i64 a4, Value.int IntKind.i64 a5, Value.int IntKind.i64 a60, Value.int IntKind.i64 a61, Value.int IntKind.i64 a62, Value.int IntKind.i64 a7, Value.int IntKind.i64 a80, Value.int IntKind.i64 a81, Value.int IntKind.i64 a82, Value.int IntKind.i64 a90, Value.int IntKind.i64 a91, Value.int IntKind.i64 a92, Value.int IntKind.u32 a10, Value.int IntKind.u32 a11, Value.slice a12p a12n a12c] (53 : Nat)) fun n0 w1 => cutC (fun u2 => heldC (World.drew w1) fun u3 => rd (cellsAt (World.drew w1) { block := n0, off := (0 : Nat) : Addr } (23 : Nat)) fun l4 => (∀ (w5 : World), u3 w5 → rd (cellsAt w5 { block := n0, off := (0 : Nat) : Addr } (23 : Nat)) fun l7 => Value.agg (List.toArray l7) = Value.agg (List.toArray l4) ∧ w5 = w5) ∧ rd (cellsAt (World.drew w1) { block := n0, off := (0 : Nat) : Addr } (23 : Nat)) fun l8 => (∀ (w9 : World), u3 w9 → rd (cellsAt w9 { block := n0, off := (0 : Nat) : Addr } (23 : Nat)) fun l11 => Value.agg (List.toArray l11) = Value.agg (List.toArray l8) ∧ w9 = w9) ∧ callV Tryd.prog (75 : Nat) [Value.agg (List.toArray l8)] (World.drew w1) fun v12 w13 => u3 w13 ∧ callV Tryd.prog (74 : Nat) [Value.agg (List.toArray l4), v12] w13 fun v14 w15 => isB v14 fun t16 => u3 w15 ∧ (∀ (w17 : World), u3 w17 → Value.bool t16 = Value.bool t16 ∧ w17 = w17) ∧ u2 (alist [((3 : Nat), Value.bool t16)]) w15) fun u19 => ∀ (u20 : Nat → Value) (w21 : World), u19 (alist [((3 : Nat), u20 (3 : Nat))]) w21 → cutC (fun u23 => isB (u20 (3 : Nat)) fun t24 => br (!t24) (R (Value.bool false) w21) (rd (World.cell? w21 { block := n0, off := (0 : Nat) : Addr }) fun v25 => isK IntKind.i64 v25 fun i26 => br (decide (i26 < (1 : Int))) (R (Value.bool false) w21) (rd (World.cell? w21 { block := n0, off := (0 : Nat) : Addr }) fun v27 => isK IntKind.i64 v27 fun i28 => br (decide ((9 : Int) < i28)) (R (Value.bool false) w21) (u23 (alist []) w21)))) fun u29 => ∀ (u30 : Nat → Value) (w31 : World), u29 (alist []) w31 → rd (World.cell? w31 { block := n0, off := (0 : Nat) : Addr }) fun v33 => isK IntKind.i64 v33 fun i34 => br (decide (i34 = (2 : Int))) (rd (World.cell? w31 { block := n0, off := (3 : Nat) : Addr }) fun v35 => isK IntKind.u8 v35 fun i36 => br (decide (i36 < (4 : Int))) (rd (World.cell? w31 { block := n0, off := (6 : Nat) : Addr }) fun v37 => isK IntKind.i64 v37 fun i38 => br (decide ((1 : Int) ≤ i38)) (rd (World.cell? w31 { block := n0, off := (6 : Nat) : Addr }) fun v39 => isK IntKind.i64 v39 fun i40 => R (Value.bool (decide (i40 ≤ (8 : Int)))) w31) (R (Value.bool false) w31)) (R (Value.bool false) w31)) (br (decide (i34 = (3 : Int))) (rd (World.cell? w31 { block := n0, off := (9 : Nat) : Addr }) fun v41 => isK IntKind.i64 v41 fun i42 => br (decide (i42 = (0 : Int))) (rd (cellsAt w31 { block := n0, off := (10 : Nat) : Addr } (3 : Nat)) fun l43 => callV Tryd.prog (76 : Nat) [Value.agg (List.toArray l43), Value.int IntKind.i64 (-65536 : Int), Value.int IntKind.i64 (65536 : Int)] w31 fun v44 w45 => isB v44 fun t46 => R (Value.bool t46) w45) (rd (World.cell? w31 { block := n0, off := (9 : Nat) : Addr }) fun v47 => isK IntKind.i64 v47 fun i48 => br (decide (i48 = (1 : Int))) (rd (cellsAt w31 { block := n0, off := (10 : Nat) : Addr } (3 : Nat)) fun l49 => callV Tryd.prog (76 : Nat) [Value.agg (List.toArray l49), Value.int IntKind.i64 (-65536 : Int), Value.int IntKind.i64 (65536 : Int)] w31 fun v50 w51 => isB v50 fun t52 => R (Value.bool t52) w51) (R (Value.bool false) w31))) (br (decide (i34 = (5 : Int))) (rd (World.cell? w31 { block := n0, off := (8 : Nat) : Addr }) fun v53 => isK IntKind.i64 v53 fun i54 => br (decide ((1 : Int) ≤ i54)) (rd (World.cell? w31 { block := n0, off := (8 : Nat) : Addr }) fun v55 => isK IntKind.i64 v55 fun i56 => R (Value.bool (decide (i56 ≤ (2147483647 : Int)))) w31) (R (Value.bool false) w31)) (br (decide (i34 = (7 : Int))) (rd (World.cell? w31 { block := n0, off := (8 : Nat) : Addr }) fun v57 => isK IntKind.i64 v57 fun i58 => br (decide ((1 : Int) ≤ i58)) (rd (World.cell? w31 { block := n0, off := (8 : Nat) : Addr }) fun v59 => isK IntKind.i64 v59 fun i60 => R (Value.bool (decide (i60 ≤ (2147483647 : Int)))) w31) (R (Value.bool false) w31)) (br (decide (i34 = (6 : Int))) (rd (cellsAt w31 { block := n0, off := (14 : Nat) : Addr } (3 : Nat)) fun l61 => callV Tryd.prog (76 : Nat) [Value.agg (List.toArray l61), Value.int IntKind.i64 (-2147483648 : Int), Value.int IntKind.i64 (2147483647 : Int)] w31 fun v62 w63 => isB v62 fun t64 => br t64 (rd (cellsAt w63 { block := n0, off := (17 : Nat) : Addr } (3 : Nat)) fun l65 => callV Tryd.prog (76 : Nat) [Value.agg (List.toArray l65), Value.int IntKind.i64 (-2147483648 : Int), Value.int IntKind.i64 (2147483647 : Int)] w63 fun v66 w67 => isB v66 fun t68 => R (Value.bool t68) w67) (R (Value.bool false) w63)) (br (decide (i34 = (8 : Int))) (rd (World.cell? w31 { block := n0, off := (13 : Nat) : Addr }) fun v69 => isK IntKind.i64 v69 fun i70 => br (decide ((1 : Int) ≤ i70)) (rd (World.cell? w31 { block := n0, off := (13 : Nat) : Addr }) fun v71 => isK IntKind.i64 v71 fun i72 => R (Value.bool (decide (i72 ≤ (10 : Int)))) w31) (R (Value.bool false) w31)) (br (decide (i34 = (9 : Int))) (rd (World.cell? w31 { block := n0, off := (22 : Nat) : Addr }) fun v73 => isSl v73 fun o74 n75 n76 => R (Value.bool (decide ((↑n75 : Int) ≤ (1023 : Int)))) w31) (R (Value.bool true) w31)))))))) :
  callV Tryd.prog 50 [Value.agg #[Value.int IntKind.i64 a0, Value.int IntKind.u16 a1, Value.int IntKind.u16 a20, Value.int IntKind.u8 a21, Value.int IntKind.i8 a22, Value.int IntKind.i8 a23, Value.int IntKind.i64 a24, Value.int IntKind.u16 a3, Value.int IntKind.i64 a4, Value.int IntKind.i64 a5, Value.int IntKind.i64 a60, Value.int IntKind.i64 a61, Value.int IntKind.i64 a62, Value.int IntKind.i64 a7, Value.int IntKind.i64 a80, Value.int IntKind.i64 a81, Value.int IntKind.i64 a82, Value.int IntKind.i64 a90, Value.int IntKind.i64 a91, Value.int IntKind.i64 a92, Value.int IntKind.u32 a10, Value.int IntKind.u32 a11, Value.slice a12p a12n a12c]] w R :=
  vc_of hm ⟨fun n => match n with | 2 => true | 4 => true | _ => false, fun n => match n with | 1 => .take 0 (.take 1 (.one 2 (.one 3 (.take 4 (.done))))) | _ => .done, fun n => match n with | 2 => [3] | 4 => [] | _ => []⟩ Tryd.func50 ent50 (by kernel_rfl) h

theorem vc75 (a0 : Int) (a1 : Int) (a20 : Int) (a21 : Int) (a22 : Int) (a23 : Int) (a24 : Int) (a3 : Int) (a4 : Int) (a5 : Int) (a60 : Int) (a61 : Int) (a62 : Int) (a7 : Int) (a80 : Int) (a81 : Int) (a82 : Int) (a90 : Int) (a91 : Int) (a92 : Int) (a10 : Int) (a11 : Int) (a12p : Option Addr) (a12n : Nat) (a12c : Nat) (w : World) (R : Value → World → Prop)
  (h : allocC w (Obj.cells #[Value.int IntKind.i64 a0, Value.int IntKind.u16 a1, Value.int IntKind.u16 a20, Value.int IntKind.u8 a21, Value.int IntKind.i8 a22, Value.int IntKind.i8 a23, Value.int IntKind.i64 a24, Value.int IntKind.u16 a3, Value.int IntKind.i64 a4, Value.int IntKind.i64 a5, Value.int IntKind.i64 a60, Value.int IntKind.i64 a61, Value.int IntKind.i64 a62, Value.int IntKind.i64 a7, Value.int IntKind.i64 a80, Value.int IntKind.i64 a81, Value.int IntKind.i64 a82, Value.int IntKind.i64 a90, Value.int IntKind.i64 a91, Value.int IntKind.i64 a92, Value.int IntKind.u32 a10, Value.int IntKind.u32 a11, Value.slice a12p a12n a12c] (53 : Nat)) fun n0 w1 => allocC w1 (Obj.cells #[Value.int IntKind.i64 (0 : Int), Value.int IntKind.u16 (0 : Int), Value.int IntKind.u16 (0 : Int), Value.int IntKind.u8 (0 : Int), Value.int IntKind.i8 (0 : Int), Value.int IntKind.i8 (0 : Int), Value.int IntKind.i64 (0 : Int), Value.int IntKind.u16 (0 : Int), Value.int IntKind.i64 (0 : Int), Value.int IntKind.i64 (0 : Int), Value.int IntKind.i64 (0 : Int), Value.int IntKind.i64 (0 : Int), Value.int IntKind.i64 (0 : Int), Value.int IntKind.i64 (0 : Int), Value.int IntKind.i64 (0 : Int), Value.int IntKind.i64 (0 : Int), Value.int IntKind.i64 (0 : Int), Value.int IntKind.i64 (0 : Int), Value.int IntKind.i64 (0 : Int), Value.int IntKind.i64 (0 : Int), Value.int IntKind.u32 (0 : Int), Value.int IntKind.u32 (0 : Int), Value.slice none (0 : Nat) (0 : Nat)] (53 : Nat)) fun n2 w3 => rd (World.cell? w3 { block := n0, off := (0 : Nat) : Addr }) fun v4 => isK IntKind.i64 v4 fun i5 => allocC w3 (Obj.cells #[Value.int IntKind.i64 (0 : Int), Value.int IntKind.u16 (0 : Int), Value.int IntKind.u16 (0 : Int), Value.int IntKind.u8 (0 : Int), Value.int IntKind.i8 (0 : Int), Value.int IntKind.i8 (0 : Int), Value.int IntKind.i64 (0 : Int), Value.int IntKind.u16 (0 : Int), Value.int IntKind.i64 (0 : Int), Value.int IntKind.i64 (0 : Int), Value.int IntKind.i64 (0 : Int), Value.int IntKind.i64 (0 : Int), Value.int IntKind.i64 (0 : Int), Value.int IntKind.i64 (0 : Int), Value.int IntKind.i64 (0 : Int), Value.int IntKind.i64 (0 : Int), Value.int IntKind.i64 (0 : Int), Value.int IntKind.i64 (0 : Int), Value.int IntKind.i64 (0 : Int), Value.int IntKind.i64 (0 : Int), Value.int IntKind.u32 (0 : Int), Value.int IntKind.u32 (0 : Int), Value.slice none (0 : Nat) (0 : Nat)] (53 : Nat)) fun n6 w7 => stC w7 { block := n6, off := (0 : Nat) : Addr } [Value.int IntKind.i64 i5, Value.int IntKind.u16 (0 : Int), Value.int IntKind.u16 (0 : Int), Value.int IntKind.u8 (0 : Int), Value.int IntKind.i8 (0 : Int), Value.int IntKind.i8 (0 : Int), Value.int IntKind.i64 (0 : Int), Value.int IntKind.u16 (0 : Int), Value.int IntKind.i64 (0 : Int), Value.int IntKind.i64 (0 : Int), Value.int IntKind.i64 (0 : Int), Value.int IntKind.i64 (0 : Int), Value.int IntKind.i64 (0 : Int), Value.int IntKind.i64 (0 : Int), Value.int IntKind.i64 (0 : Int), Value.int IntKind.i64 (0 : Int), Value.int IntKind.i64 (0 : Int), Value.int IntKind.i64 (0 : Int), Value.int IntKind.i64 (0 : Int), Value.int IntKind.i64 (0 : Int), Value.int IntKind.u32 (0 : Int), Value.int IntKind.u32 (0 : Int), Value.slice none (0 : Nat) (0 : Nat)] fun w8 => cutC (fun u9 => rd (World.cell? w8 { block := n0, off := (0 : Nat) : Addr }) fun v10 => isK IntKind.i64 v10 fun i11 => br (decide (i11 = (2 : Int))) (rd (cellsAt w8 { block := n0, off := (2 : Nat) : Addr } (5 : Nat)) fun l12 => rd (gd (List.length l12 == (5 : Nat))) fun _x => stC w8 { block := n6, off := (2 : Nat) : Addr } l12 fun w13 => u9 (alist []) w13) (br (decide (i11 = (3 : Int))) (rd (World.cell? w8 { block := n0, off := (7 : Nat) : Addr }) fun v14 => isK IntKind.u16 v14 fun i15 => stC w8 { block := n6, off := (7 : Nat) : Addr } [Value.int IntKind.u16 i15] fun w16 => rd (World.cell? w16 { block := n0, off := (9 : Nat) : Addr }) fun v17 => isK IntKind.i64 v17 fun i18 => stC w16 { block := n6, off := (9 : Nat) : Addr } [Value.int IntKind.i64 i18] fun w19 => rd (cellsAt w19 { block := n0, off := (10 : Nat) : Addr } (3 : Nat)) fun l20 => rd (gd (List.length l20 == (3 : Nat))) fun _x => stC w19 { block := n6, off := (10 : Nat) : Addr } l20 fun w21 => u9 (alist []) w21) (br (decide (i11 = (5 : Int))) (rd (World.cell? w8 { block := n0, off := (8 : Nat) : Addr }) fun v22 => isK IntKind.i64 v22 fun i23 => stC w8 { block := n6, off := (8 : Nat) : Addr } [Value.int IntKind.i64 i23] fun w24 => u9 (alist []) w24) (br (decide (i11 = (6 : Int))) (rd (World.cell? w8 { block := n0, off := (1 : Nat) : Addr }) fun v25 => isK IntKind.u16 v25 fun i26 => stC w8 { block := n6, off := (1 : Nat) : Addr } [Value.int IntKind.u16 i26] fun w27 => rd (cellsAt w27 { block := n0, off := (14 : Nat) : Addr } (3 : Nat)) fun l28 => rd (gd (List.length l28 == (3 : Nat))) fun _x => stC w27 { block := n6, off := (14 : Nat) : Addr } l28 fun w29 => rd (cellsAt w29 { block := n0, off := (17 : Nat) : Addr } (3 : Nat)) fun l30 => rd (gd (List.length l30 == (3 : Nat))) fun _x => stC w29 { block := n6, off := (17 : Nat) : Addr } l30 fun w31 => u9 (alist []) w31) (br (decide (i11 = (7 : Int))) (rd (World.cell? w8 { block := n0, off := (7 : Nat) : Addr }) fun v32 => isK IntKind.u16 v32 fun i33 => stC w8 { block := n6, off := (7 : Nat) : Addr } [Value.int IntKind.u16 i33] fun w34 => rd (World.cell? w34 { block := n0, off := (8 : Nat) : Addr }) fun v35 => isK IntKind.i64 v35 fun i36 => stC w34 { block := n6, off := (8 : Nat) : Addr } [Value.int IntKind.i64 i36] fun w37 => u9 (alist []) w37) (br (decide (i11 = (8 : Int))) (rd (World.cell? w8 { block := n0, off := (7 : Nat) : Addr }) fun v38 => isK IntKind.u16 v38 fun i39 => stC w8 { block := n6, off := (7 : Nat) : Addr } [Value.int IntKind.u16 i39] fun w40 => rd (World.cell? w40 { block := n0, off := (13 : Nat) : Addr }) fun v41 => isK IntKind.i64 v41 fun i42 => stC w40 { block := n6, off := (13 : Nat) : Addr } [Value.int IntKind.i64 i42] fun w43 => u9 (alist []) w43) (br (decide (i11 = (9 : Int))) (rd (World.cell? w8 { block := n0, off := (20 : Nat) : Addr }) fun v44 => isK IntKind.u32 v44 fun i45 => stC w8 { block := n6, off := (20 : Nat) : Addr } [Value.int IntKind.u32 i45] fun w46 => rd (World.cell? w46 { block := n0, off := (21 : Nat) : Addr }) fun v47 => isK IntKind.u32 v47 fun i48 => stC w46 { block := n6, off := (21 : Nat) : Addr } [Value.int IntKind.u32 i48] fun w49 => rd (World.cell? w49 { block := n0, off := (22 : Nat) : Addr }) fun v50 => isSl v50 fun o51 n52 n53 => stC w49 { block := n6, off := (22 : Nat) : Addr } [Value.slice o51 n52 n53] fun w54 => u9 (alist []) w54) (u9 (alist []) w8)))))))) fun u55 => ∀ (u56 : Nat → Value) (w57 : World), u55 (alist []) w57 → rd (cellsAt w57 { block := n6, off := (0 : Nat) : Addr } (23 : Nat)) fun l59 => rd (gd (List.length l59 == (23 : Nat))) fun _x => stC w57 { block := n2, off := (0 : Nat) : Addr } l59 fun w60 => rd (cellsAt w60 { block := n2, off := (0 : Nat) : Addr } (23 : Nat)) fun l61 => R (Value.agg (List.toArray l61)) w60) :
  callV Tryd.prog 75 [Value.agg #[Value.int IntKind.i64 a0, Value.int IntKind.u16 a1, Value.int IntKind.u16 a20, Value.int IntKind.u8 a21, Value.int IntKind.i8 a22, Value.int IntKind.i8 a23, Value.int IntKind.i64 a24, Value.int IntKind.u16 a3, Value.int IntKind.i64 a4, Value.int IntKind.i64 a5, Value.int IntKind.i64 a60, Value.int IntKind.i64 a61, Value.int IntKind.i64 a62, Value.int IntKind.i64 a7, Value.int IntKind.i64 a80, Value.int IntKind.i64 a81, Value.int IntKind.i64 a82, Value.int IntKind.i64 a90, Value.int IntKind.i64 a91, Value.int IntKind.i64 a92, Value.int IntKind.u32 a10, Value.int IntKind.u32 a11, Value.slice a12p a12n a12c]] w R :=
  vc_of hm ⟨fun n => match n with | 25 => true | _ => false, fun _ => .done, fun n => match n with | 25 => [] | _ => []⟩ Tryd.func75 ent75 (by kernel_rfl) h

theorem vc78 (a0 : Int) (a1 : Int) (a20 : Int) (a21 : Int) (a22 : Int) (a23 : Int) (a24 : Int) (a3 : Int) (a4 : Int) (a5 : Int) (a60 : Int) (a61 : Int) (a62 : Int) (a7 : Int) (a80 : Int) (a81 : Int) (a82 : Int) (a90 : Int) (a91 : Int) (a92 : Int) (a10 : Int) (a11 : Int) (a12p : Option Addr) (a12n : Nat) (a12c : Nat) (w : World) (R : Value → World → Prop)
  (h : allocC w (Obj.cells #[Value.int IntKind.i64 a0, Value.int IntKind.u16 a1, Value.int IntKind.u16 a20, Value.int IntKind.u8 a21, Value.int IntKind.i8 a22, Value.int IntKind.i8 a23, Value.int IntKind.i64 a24, Value.int IntKind.u16 a3, Value.int IntKind.i64 a4, Value.int IntKind.i64 a5, Value.int IntKind.i64 a60, Value.int IntKind.i64 a61, Value.int IntKind.i64 a62, Value.int IntKind.i64 a7, Value.int IntKind.i64 a80, Value.int IntKind.i64 a81, Value.int IntKind.i64 a82, Value.int IntKind.i64 a90, Value.int IntKind.i64 a91, Value.int IntKind.i64 a92, Value.int IntKind.u32 a10, Value.int IntKind.u32 a11, Value.slice a12p a12n a12c] (53 : Nat)) fun n0 w1 => rd (World.cell? w1 { block := n0, off := (0 : Nat) : Addr }) fun v2 => isK IntKind.i64 v2 fun i3 => callV Tryd.prog (77 : Nat) [Value.int IntKind.u64 (IntKind.wrap IntKind.u64 i3), Value.int IntKind.i64 (4 : Int)] w1 fun v4 w5 => isStr v4 fun x6 => rd (World.cell? w5 { block := n0, off := (7 : Nat) : Addr }) fun v7 => isK IntKind.u16 v7 fun i8 => callV Tryd.prog (77 : Nat) [Value.int IntKind.u64 (IntKind.wrap IntKind.u64 i8), Value.int IntKind.i64 (16 : Int)] w5 fun v9 w10 => isStr v9 fun x11 => rd (World.cell? w10 { block := n0, off := (0 : Nat) : Addr }) fun v12 => isK IntKind.i64 v12 fun i13 => br (decide (i13 = (2 : Int))) (rd (cellsAt w10 { block := n0, off := (2 : Nat) : Addr } (5 : Nat)) fun l14 => allocC w10 (Obj.cells #[Value.int IntKind.u16 (0 : Int), Value.int IntKind.u8 (0 : Int), Value.int IntKind.i8 (0 : Int), Value.int IntKind.i8 (0 : Int), Value.int IntKind.i64 (0 : Int)] (49 : Nat)) fun n15 w16 => rd (gd (List.length l14 == (5 : Nat))) fun _x => stC w16 { block := n15, off := (0 : Nat) : Addr } l14 fun w17 => heldC (World.drew w17) fun u18 => (∀ (w19 : World), u18 w19 → Value.string x6 = Value.string x6 ∧ w19 = w19) ∧ (∀ (w21 : World), u18 w21 → Value.pointer (some { block := n15, off := (0 : Nat) : Addr }) = Value.pointer (some { block := n15, off := (0 : Nat) : Addr }) ∧ w21 = w21) ∧ rd (World.cell? (World.drew w17) { block := n15, off := (0 : Nat) : Addr }) fun v23 => (∀ (w24 : World), u18 w24 → rd (World.cell? w24 { block := n15, off := (0 : Nat) : Addr }) fun v26 => v26 = v23 ∧ w24 = w24) ∧ isK IntKind.u16 v23 fun i27 => (∀ (w28 : World), u18 w28 → Value.int IntKind.u64 (IntKind.wrap IntKind.u64 i27) = Value.int IntKind.u64 (IntKind.wrap IntKind.u64 i27) ∧ w28 = w28) ∧ (∀ (w30 : World), u18 w30 → Value.pointer (some { block := n15, off := (1 : Nat) : Addr }) = Value.pointer (some { block := n15, off := (1 : Nat) : Addr }) ∧ w30 = w30) ∧ rd (World.cell? (World.drew w17) { block := n15, off := (1 : Nat) : Addr }) fun v32 => (∀ (w33 : World), u18 w33 → rd (World.cell? w33 { block := n15, off := (1 : Nat) : Addr }) fun v35 => v35 = v32 ∧ w33 = w33) ∧ isK IntKind.u8 v32 fun i36 => (∀ (w37 : World), u18 w37 → Value.int IntKind.u64 (IntKind.wrap IntKind.u64 i36) = Value.int IntKind.u64 (IntKind.wrap IntKind.u64 i36) ∧ w37 = w37) ∧ callV Tryd.prog (77 : Nat) [Value.int IntKind.u64 (IntKind.wrap IntKind.u64 i27), Value.int IntKind.i64 (16 : Int)] (World.drew w17) fun v39 w40 => isStr v39 fun x41 => u18 w40 ∧ rd (orO (binV BinOp.add (Value.string x6) (Value.string x41)) none) fun v42 => (∀ (w43 : World), u18 w43 → rd (orO (binV BinOp.add (Value.string x6) (Value.string x41)) none) fun v45 => v45 = v42 ∧ w43 = w43) ∧ isStr v42 fun x46 => callV Tryd.prog (77 : Nat) [Value.int IntKind.u64 (IntKind.wrap IntKind.u64 i36), Value.int IntKind.i64 (2 : Int)] w40 fun v47 w48 => isStr v47 fun x49 => u18 w48 ∧ rd (orO (binV BinOp.add (Value.string x46) (Value.string x49)) none) fun v50 => (∀ (w51 : World), u18 w51 → rd (orO (binV BinOp.add (Value.string x46) (Value.string x49)) none) fun v53 => v53 = v50 ∧ w51 = w51) ∧ isStr v50 fun x54 => (∀ (w55 : World), u18 w55 → Value.string x54 = Value.string x54 ∧ w55 = w55) ∧ heldC (World.drew w48) fun u57 => (∀ (w58 : World), u57 w58 → Value.string x54 = Value.string x54 ∧ w58 = w58) ∧ (∀ (w60 : World), u57 w60 → Value.pointer (some { block := n15, off := (2 : Nat) : Addr }) = Value.pointer (some { block := n15, off := (2 : Nat) : Addr }) ∧ w60 = w60) ∧ rd (World.cell? (World.drew w48) { block := n15, off := (2 : Nat) : Addr }) fun v62 => (∀ (w63 : World), u57 w63 → rd (World.cell? w63 { block := n15, off := (2 : Nat) : Addr }) fun v65 => v65 = v62 ∧ w63 = w63) ∧ isK IntKind.i8 v62 fun i66 => (∀ (w67 : World), u57 w67 → Value.int IntKind.u64 (IntKind.wrap IntKind.u64 i66) = Value.int IntKind.u64 (IntKind.wrap IntKind.u64 i66) ∧ w67 = w67) ∧ (∀ (w69 : World), u57 w69 → Value.pointer (some { block := n15, off := (3 : Nat) : Addr }) = Value.pointer (some { block := n15, off := (3 : Nat) : Addr }) ∧ w69 = w69) ∧ rd (World.cell? (World.drew w48) { block := n15, off := (3 : Nat) : Addr }) fun v71 => (∀ (w72 : World), u57 w72 → rd (World.cell? w72 { block := n15, off := (3 : Nat) : Addr }) fun v74 => v74 = v71 ∧ w72 = w72) ∧ isK IntKind.i8 v71 fun i75 => (∀ (w76 : World), u57 w76 → Value.int IntKind.u64 (IntKind.wrap IntKind.u64 i75) = Value.int IntKind.u64 (IntKind.wrap IntKind.u64 i75) ∧ w76 = w76) ∧ (∀ (w78 : World), u57 w78 → Value.pointer (some { block := n15, off := (4 : Nat) : Addr }) = Value.pointer (some { block := n15, off := (4 : Nat) : Addr }) ∧ w78 = w78) ∧ rd (World.cell? (World.drew w48) { block := n15, off := (4 : Nat) : Addr }) fun v80 => (∀ (w81 : World), u57 w81 → rd (World.cell? w81 { block := n15, off := (4 : Nat) : Addr }) fun v83 => v83 = v80 ∧ w81 = w81) ∧ isK IntKind.i64 v80 fun i84 => (∀ (w85 : World), u57 w85 → Value.int IntKind.i64 (IntKind.wrap IntKind.i64 (i84 - (1 : Int))) = Value.int IntKind.i64 (IntKind.wrap IntKind.i64 (i84 - (1 : Int))) ∧ w85 = w85) ∧ (∀ (w87 : World), u57 w87 → Value.int IntKind.u64 (IntKind.wrap IntKind.u64 (IntKind.wrap IntKind.i64 (i84 - (1 : Int)))) = Value.int IntKind.u64 (IntKind.wrap IntKind.u64 (IntKind.wrap IntKind.i64 (i84 - (1 : Int)))) ∧ w87 = w87) ∧ callV Tryd.prog (77 : Nat) [Value.int IntKind.u64 (IntKind.wrap IntKind.u64 i66), Value.int IntKind.i64 (8 : Int)] (World.drew w48) fun v89 w90 => isStr v89 fun x91 => u57 w90 ∧ rd (orO (binV BinOp.add (Value.string x54) (Value.string x91)) none) fun v92 => (∀ (w93 : World), u57 w93 → rd (orO (binV BinOp.add (Value.string x54) (Value.string x91)) none) fun v95 => v95 = v92 ∧ w93 = w93) ∧ isStr v92 fun x96 => callV Tryd.prog (77 : Nat) [Value.int IntKind.u64 (IntKind.wrap IntKind.u64 i75), Value.int IntKind.i64 (8 : Int)] w90 fun v97 w98 => isStr v97 fun x99 => u57 w98 ∧ rd (orO (binV BinOp.add (Value.string x96) (Value.string x99)) none) fun v100 => (∀ (w101 : World), u57 w101 → rd (orO (binV BinOp.add (Value.string x96) (Value.string x99)) none) fun v103 => v103 = v100 ∧ w101 = w101) ∧ isStr v100 fun x104 => callV Tryd.prog (77 : Nat) [Value.int IntKind.u64 (IntKind.wrap IntKind.u64 (IntKind.wrap IntKind.i64 (i84 - (1 : Int)))), Value.int IntKind.i64 (3 : Int)] w98 fun v105 w106 => isStr v105 fun x107 => u57 w106 ∧ rd (orO (binV BinOp.add (Value.string x104) (Value.string x107)) none) fun v108 => (∀ (w109 : World), u57 w109 → rd (orO (binV BinOp.add (Value.string x104) (Value.string x107)) none) fun v111 => v111 = v108 ∧ w109 = w109) ∧ isStr v108 fun x112 => (∀ (w113 : World), u57 w113 → Value.string x112 = Value.string x112 ∧ w113 = w113) ∧ R (Value.string x112) w106) (br (decide (i13 = (3 : Int))) (heldC (World.drew w10) fun u115 => (∀ (w116 : World), u115 w116 → Value.string x6 = Value.string x6 ∧ w116 = w116) ∧ (∀ (w118 : World), u115 w118 → Value.string x11 = Value.string x11 ∧ w118 = w118) ∧ rd (orO (binV BinOp.add (Value.string x6) (Value.string x11)) none) fun v120 => (∀ (w121 : World), u115 w121 → rd (orO (binV BinOp.add (Value.string x6) (Value.string x11)) none) fun v123 => v123 = v120 ∧ w121 = w121) ∧ isStr v120 fun x124 => (∀ (w125 : World), u115 w125 → Value.pointer (some { block := n0, off := (9 : Nat) : Addr }) = Value.pointer (some { block := n0, off := (9 : Nat) : Addr }) ∧ w125 = w125) ∧ rd (World.cell? (World.drew w10) { block := n0, off := (9 : Nat) : Addr }) fun v127 => (∀ (w128 : World), u115 w128 → rd (World.cell? w128 { block := n0, off := (9 : Nat) : Addr }) fun v130 => v130 = v127 ∧ w128 = w128) ∧ isK IntKind.i64 v127 fun i131 => (∀ (w132 : World), u115 w132 → Value.int IntKind.u64 (IntKind.wrap IntKind.u64 i131) = Value.int IntKind.u64 (IntKind.wrap IntKind.u64 i131) ∧ w132 = w132) ∧ (∀ (w134 : World), u115 w134 → Value.pointer (some { block := n0, off := (10 : Nat) : Addr }) = Value.pointer (some { block := n0, off := (10 : Nat) : Addr }) ∧ w134 = w134) ∧ rd (cellsAt (World.drew w10) { block := n0, off := (10 : Nat) : Addr } (3 : Nat)) fun l136 => (∀ (w137 : World), u115 w137 → rd (cellsAt w137 { block := n0, off := (10 : Nat) : Addr } (3 : Nat)) fun l139 => Value.agg (List.toArray l139) = Value.agg (List.toArray l136) ∧ w137 = w137) ∧ callV Tryd.prog (77 : Nat) [Value.int IntKind.u64 (IntKind.wrap IntKind.u64 i131), Value.int IntKind.i64 (1 : Int)] (World.drew w10) fun v140 w141 => isStr v140 fun x142 => u115 w141 ∧ rd (orO (binV BinOp.add (Value.string x124) (Value.string x142)) none) fun v143 => (∀ (w144 : World), u115 w144 → rd (orO (binV BinOp.add (Value.string x124) (Value.string x142)) none) fun v146 => v146 = v143 ∧ w144 = w144) ∧ isStr v143 fun x147 => callV Tryd.prog (91 : Nat) [Value.agg (List.toArray l136), Value.int IntKind.i64 (18 : Int)] w141 fun v148 w149 => isStr v148 fun x150 => u115 w149 ∧ rd (orO (binV BinOp.add (Value.string x147) (Value.string x150)) none) fun v151 => (∀ (w152 : World), u115 w152 → rd (orO (binV BinOp.add (Value.string x147) (Value.string x150)) none) fun v154 => v154 = v151 ∧ w152 = w152) ∧ isStr v151 fun x155 => (∀ (w156 : World), u115 w156 → Value.string x155 = Value.string x155 ∧ w156 = w156) ∧ R (Value.string x155) w149) (br (decide (i13 = (5 : Int))) (rd (World.cell? w10 { block := n0, off := (8 : Nat) : Addr }) fun v158 => isK IntKind.i64 v158 fun i159 => callV Tryd.prog (77 : Nat) [Value.int IntKind.u64 (IntKind.wrap IntKind.u64 i159), Value.int IntKind.i64 (31 : Int)] w10 fun v160 w161 => isStr v160 fun x162 => rd (orO (binV BinOp.add (Value.string x6) (Value.string x162)) none) fun v163 => isStr v163 fun x164 => R (Value.string x164) w161) (br (decide (i13 = (6 : Int))) (heldC (World.drew w10) fun u165 => (∀ (w166 : World), u165 w166 → Value.string x6 = Value.string x6 ∧ w166 = w166) ∧ (∀ (w168 : World), u165 w168 → Value.pointer (some { block := n0, off := (1 : Nat) : Addr }) = Value.pointer (some { block := n0, off := (1 : Nat) : Addr }) ∧ w168 = w168) ∧ rd (World.cell? (World.drew w10) { block := n0, off := (1 : Nat) : Addr }) fun v170 => (∀ (w171 : World), u165 w171 → rd (World.cell? w171 { block := n0, off := (1 : Nat) : Addr }) fun v173 => v173 = v170 ∧ w171 = w171) ∧ isK IntKind.u16 v170 fun i174 => (∀ (w175 : World), u165 w175 → Value.int IntKind.u64 (IntKind.wrap IntKind.u64 i174) = Value.int IntKind.u64 (IntKind.wrap IntKind.u64 i174) ∧ w175 = w175) ∧ (∀ (w177 : World), u165 w177 → Value.pointer (some { block := n0, off := (14 : Nat) : Addr }) = Value.pointer (some { block := n0, off := (14 : Nat) : Addr }) ∧ w177 = w177) ∧ rd (cellsAt (World.drew w10) { block := n0, off := (14 : Nat) : Addr } (3 : Nat)) fun l179 => (∀ (w180 : World), u165 w180 → rd (cellsAt w180 { block := n0, off := (14 : Nat) : Addr } (3 : Nat)) fun l182 => Value.agg (List.toArray l182) = Value.agg (List.toArray l179) ∧ w180 = w180) ∧ (∀ (w183 : World), u165 w183 → Value.pointer (some { block := n0, off := (17 : Nat) : Addr }) = Value.pointer (some { block := n0, off := (17 : Nat) : Addr }) ∧ w183 = w183) ∧ rd (cellsAt (World.drew w10) { block := n0, off := (17 : Nat) : Addr } (3 : Nat)) fun l185 => (∀ (w186 : World), u165 w186 → rd (cellsAt w186 { block := n0, off := (17 : Nat) : Addr } (3 : Nat)) fun l188 => Value.agg (List.toArray l188) = Value.agg (List.toArray l185) ∧ w186 = w186) ∧ callV Tryd.prog (77 : Nat) [Value.int IntKind.u64 (IntKind.wrap IntKind.u64 i174), Value.int IntKind.i64 (16 : Int)] (World.drew w10) fun v189 w190 => isStr v189 fun x191 => u165 w190 ∧ rd (orO (binV BinOp.add (Value.string x6) (Value.string x191)) none) fun v192 => (∀ (w193 : World), u165 w193 → rd (orO (binV BinOp.add (Value.string x6) (Value.string x191)) none) fun v195 => v195 = v192 ∧ w193 = w193) ∧ isStr v192 fun x196 => callV Tryd.prog (91 : Nat) [Value.agg (List.toArray l179), Value.int IntKind.i64 (32 : Int)] w190 fun v197 w198 => isStr v197 fun x199 => u165 w198 ∧ rd (orO (binV BinOp.add (Value.string x196) (Value.string x199)) none) fun v200 => (∀ (w201 : World), u165 w201 → rd (orO (binV BinOp.add (Value.string x196) (Value.string x199)) none) fun v203 => v203 = v200 ∧ w201 = w201) ∧ isStr v200 fun x204 => callV Tryd.prog (91 : Nat) [Value.agg (List.toArray l185), Value.int IntKind.i64 (32 : Int)] w198 fun v205 w206 => isStr v205 fun x207 => u165 w206 ∧ rd (orO (binV BinOp.add (Value.string x204) (Value.string x207)) none) fun v208 => (∀ (w209 : World), u165 w209 → rd (orO (binV BinOp.add (Value.string x204) (Value.string x207)) none) fun v211 => v211 = v208 ∧ w209 = w209) ∧ isStr v208 fun x212 => (∀ (w213 : World), u165 w213 → Value.string x212 = Value.string x212 ∧ w213 = w213) ∧ R (Value.string x212) w206) (br (decide (i13 = (7 : Int))) (rd (orO (binV BinOp.add (Value.string x6) (Value.string x11)) none) fun v215 => isStr v215 fun x216 => rd (World.cell? w10 { block := n0, off := (8 : Nat) : Addr }) fun v217 => isK IntKind.i64 v217 fun i218 => callV Tryd.prog (77 : Nat) [Value.int IntKind.u64 (IntKind.wrap IntKind.u64 i218), Value.int IntKind.i64 (31 : Int)] w10 fun v219 w220 => isStr v219 fun x221 => rd (orO (binV BinOp.add (Value.string x216) (Value.string x221)) none) fun v222 => isStr v222 fun x223 => R (Value.string x223) w220) (br (decide (i13 = (8 : Int))) (rd (orO (binV BinOp.add (Value.string x6) (Value.string x11)) none) fun v224 => isStr v224 fun x225 => rd (World.cell? w10 { block := n0, off := (13 : Nat) : Addr }) fun v226 => isK IntKind.i64 v226 fun i227 => callV Tryd.prog (77 : Nat) [Value.int IntKind.u64 (IntKind.wrap IntKind.u64 i227), Value.int IntKind.i64 (4 : Int)] w10 fun v228 w229 => isStr v228 fun x230 => rd (orO (binV BinOp.add (Value.string x225) (Value.string x230)) none) fun v231 => isStr v231 fun x232 => R (Value.string x232) w229) (br (decide (i13 = (9 : Int))) (heldC (World.drew w10) fun u233 => (∀ (w234 : World), u233 w234 → Value.string x6 = Value.string x6 ∧ w234 = w234) ∧ (∀ (w236 : World), u233 w236 → Value.pointer (some { block := n0, off := (20 : Nat) : Addr }) = Value.pointer (some { block := n0, off := (20 : Nat) : Addr }) ∧ w236 = w236) ∧ rd (World.cell? (World.drew w10) { block := n0, off := (20 : Nat) : Addr }) fun v238 => (∀ (w239 : World), u233 w239 → rd (World.cell? w239 { block := n0, off := (20 : Nat) : Addr }) fun v241 => v241 = v238 ∧ w239 = w239) ∧ isK IntKind.u32 v238 fun i242 => (∀ (w243 : World), u233 w243 → Value.int IntKind.u64 (IntKind.wrap IntKind.u64 i242) = Value.int IntKind.u64 (IntKind.wrap IntKind.u64 i242) ∧ w243 = w243) ∧ (∀ (w245 : World), u233 w245 → Value.pointer (some { block := n0, off := (21 : Nat) : Addr }) = Value.pointer (some { block := n0, off := (21 : Nat) : Addr }) ∧ w245 = w245) ∧ rd (World.cell? (World.drew w10) { block := n0, off := (21 : Nat) : Addr }) fun v247 => (∀ (w248 : World), u233 w248 → rd (World.cell? w248 { block := n0, off := (21 : Nat) : Addr }) fun v250 => v250 = v247 ∧ w248 = w248) ∧ isK IntKind.u32 v247 fun i251 => (∀ (w252 : World), u233 w252 → Value.int IntKind.u64 (IntKind.wrap IntKind.u64 i251) = Value.int IntKind.u64 (IntKind.wrap IntKind.u64 i251) ∧ w252 = w252) ∧ (∀ (w254 : World), u233 w254 → Value.pointer (some { block := n0, off := (22 : Nat) : Addr }) = Value.pointer (some { block := n0, off := (22 : Nat) : Addr }) ∧ w254 = w254) ∧ rd (World.cell? (World.drew w10) { block := n0, off := (22 : Nat) : Addr }) fun v256 => (∀ (w257 : World), u233 w257 → rd (World.cell? w257 { block := n0, off := (22 : Nat) : Addr }) fun v259 => v259 = v256 ∧ w257 = w257) ∧ isSl v256 fun o260 n261 n262 => (∀ (w263 : World), u233 w263 → Value.int IntKind.i64 (↑n261 : Int) = Value.int IntKind.i64 (↑n261 : Int) ∧ w263 = w263) ∧ (∀ (w265 : World), u233 w265 → Value.int IntKind.u64 (IntKind.wrap IntKind.u64 (↑n261 : Int)) = Value.int IntKind.u64 (IntKind.wrap IntKind.u64 (↑n261 : Int)) ∧ w265 = w265) ∧ callV Tryd.prog (77 : Nat) [Value.int IntKind.u64 (IntKind.wrap IntKind.u64 i242), Value.int IntKind.i64 (32 : Int)] (World.drew w10) fun v267 w268 => isStr v267 fun x269 => u233 w268 ∧ rd (orO (binV BinOp.add (Value.string x6) (Value.string x269)) none) fun v270 => (∀ (w271 : World), u233 w271 → rd (orO (binV BinOp.add (Value.string x6) (Value.string x269)) none) fun v273 => v273 = v270 ∧ w271 = w271) ∧ isStr v270 fun x274 => callV Tryd.prog (77 : Nat) [Value.int IntKind.u64 (IntKind.wrap IntKind.u64 i251), Value.int IntKind.i64 (32 : Int)] w268 fun v275 w276 => isStr v275 fun x277 => u233 w276 ∧ rd (orO (binV BinOp.add (Value.string x274) (Value.string x277)) none) fun v278 => (∀ (w279 : World), u233 w279 → rd (orO (binV BinOp.add (Value.string x274) (Value.string x277)) none) fun v281 => v281 = v278 ∧ w279 = w279) ∧ isStr v278 fun x282 => callV Tryd.prog (77 : Nat) [Value.int IntKind.u64 (IntKind.wrap IntKind.u64 (↑n261 : Int)), Value.int IntKind.i64 (10 : Int)] w276 fun v283 w284 => isStr v283 fun x285 => u233 w284 ∧ rd (orO (binV BinOp.add (Value.string x282) (Value.string x285)) none) fun v286 => (∀ (w287 : World), u233 w287 → rd (orO (binV BinOp.add (Value.string x282) (Value.string x285)) none) fun v289 => v289 = v286 ∧ w287 = w287) ∧ isStr v286 fun x290 => (∀ (w291 : World), u233 w291 → Value.string x290 = Value.string x290 ∧ w291 = w291) ∧ rd (World.cell? w284 { block := n0, off := (22 : Nat) : Addr }) fun v293 => isSl v293 fun o294 n295 n296 => runs Tryd.prog (convert (25 : Nat) (9 : Nat) (Value.slice o294 n295 n296)) w284 fun v297 w298 => isStr v297 fun x299 => callV Tryd.prog (56 : Nat) [Value.string x299] w298 fun v300 w301 => isStr v300 fun x302 => rd (orO (binV BinOp.add (Value.string x290) (Value.string x302)) none) fun v303 => isStr v303 fun x304 => R (Value.string x304) w301) (R (Value.string x6) w10)))))))) :
  callV Tryd.prog 78 [Value.agg #[Value.int IntKind.i64 a0, Value.int IntKind.u16 a1, Value.int IntKind.u16 a20, Value.int IntKind.u8 a21, Value.int IntKind.i8 a22, Value.int IntKind.i8 a23, Value.int IntKind.i64 a24, Value.int IntKind.u16 a3, Value.int IntKind.i64 a4, Value.int IntKind.i64 a5, Value.int IntKind.i64 a60, Value.int IntKind.i64 a61, Value.int IntKind.i64 a62, Value.int IntKind.i64 a7, Value.int IntKind.i64 a80, Value.int IntKind.i64 a81, Value.int IntKind.i64 a82, Value.int IntKind.i64 a90, Value.int IntKind.i64 a91, Value.int IntKind.i64 a92, Value.int IntKind.u32 a10, Value.int IntKind.u32 a11, Value.slice a12p a12n a12c]] w R :=
  vc_of hm ⟨fun _ => false, fun n => match n with | 6 => .take 0 (.take 1 (.take 2 (.take 3 (.take 6 (.take 7 (.take 8 (.one 4 (.take 5 (.one 9 (.take 10 (.take 11 (.done)))))))))))) | 7 => .take 0 (.take 1 (.take 2 (.take 3 (.take 6 (.take 7 (.take 8 (.take 11 (.take 12 (.take 13 (.take 14 (.one 4 (.take 5 (.one 9 (.take 10 (.one 15 (.take 16 (.take 17 (.done)))))))))))))))))) | 9 => .take 0 (.take 1 (.take 2 (.take 3 (.take 4 (.take 5 (.take 8 (.take 9 (.one 6 (.take 7 (.one 10 (.take 11 (.take 12 (.done))))))))))))) | 13 => .take 0 (.take 1 (.take 2 (.take 3 (.take 6 (.take 7 (.take 10 (.take 11 (.one 4 (.take 5 (.one 8 (.take 9 (.one 12 (.take 13 (.take 14 (.done))))))))))))))) | 19 => .take 0 (.take 1 (.take 2 (.take 3 (.take 6 (.take 7 (.take 8 (.take 11 (.take 12 (.take 13 (.take 14 (.one 4 (.take 5 (.one 9 (.take 10 (.one 15 (.take 16 (.take 17 (.done)))))))))))))))))) | _ => .done, fun _ => []⟩ Tryd.func78 ent78 (by kernel_rfl) h

end Go.Proofs.YtipikchkbmgloaaDoor
/- the reference: may a message be.  Conditions: the message's fields are in their types' ranges; its bytes may be read. -/
namespace Go.Proofs.YtipikchkbmgloaaDoor
set_option linter.unusedSimpArgs false
set_option linter.unusedVariables false
open Go Go.RowKit VC
variable {w : World}
theorem far29_c {a0 a1 a2 b c : Int} : callV Tryd.prog 76 [.agg #[.int .i64 a0, .int .i64 a1, .int .i64 a2], .int .i64 b, .int .i64 c] w fun v w' => v = .bool (decide ((b ≤ a0 ∧ a0 ≤ c) ∧ (b ≤ a1 ∧ a1 ≤ c) ∧ (b ≤ a2 ∧ a2 ≤ c))) ∧ Fm none' w w' := by
  refine vc76 a0 a1 a2 b c w _ ?_
  refine allocC_of fun w1 hb1 hs1 hf1 => ?_
  refine rd_of (v := .int .i64 a0) (cellOf hb1 rfl) ?_
  simp only [vcs, eqV, nilV, Option.map_some, Nat.mul_one, implies_true, true_and, and_true, and_self]
  refine rd_of (v := .int .i64 a1) (cellOf hb1 rfl) ?_
  simp only [vcs, eqV, nilV, Option.map_some, Nat.mul_one, implies_true, true_and, and_true, and_self]
  refine rd_of (v := .int .i64 a2) (cellOf hb1 rfl) ?_
  simp only [vcs, eqV, nilV, Option.map_some, Nat.mul_one, implies_true, true_and, and_true, and_self]
  refine min3 ?_
  simp only [vcs, eqV, nilV, Option.map_some, Nat.mul_one, implies_true, true_and, and_true, and_self]
  refine br_dec (fun h => ?_) (fun h => ⟨?_, hf1⟩)
  · refine rd_of (v := .int .i64 a0) (cellOf hb1 rfl) ?_
    simp only [vcs, eqV, nilV, Option.map_some, Nat.mul_one, implies_true, true_and, and_true, and_self]
    refine rd_of (v := .int .i64 a1) (cellOf hb1 rfl) ?_
    simp only [vcs, eqV, nilV, Option.map_some, Nat.mul_one, implies_true, true_and, and_true, and_self]
    refine rd_of (v := .int .i64 a2) (cellOf hb1 rfl) ?_
    simp only [vcs, eqV, nilV, Option.map_some, Nat.mul_one, implies_true, true_and, and_true, and_self]
    refine max3 ?_
    simp only [vcs, eqV, nilV, Option.map_some, Nat.mul_one, implies_true, true_and, and_true, and_self]
    refine ⟨?_, hf1⟩
    congr 1
    rw [decide_eq_decide]
    omega
  · congr 1
    symm
    rw [decide_eq_false_iff_not]
    omega
theorem BytesAt.none : BytesAt w (none : Option Addr) [] := fun j y h => by simp at h
set_option maxRecDepth 20000 in
set_option maxHeartbeats 4000000 in
theorem only28_c {m : Msg} {q : Option Addr} {c : Nat} (hby : BytesAt w q m.bytes) :
    callV Tryd.prog 75 [.agg (msgC m q c).toArray] w fun v w' => ∃ q' c', v = .agg (msgC (only m) q' c').toArray ∧ BytesAt w' q' (only m).bytes ∧ Fm none' w w' := by
  unfold msgC
  apply vc75
  refine allocC_of fun w1 hb1 hs1 hf1 => ?_
  change w1.heap[w.heap.size]? = some (.cells (msgC m q c).toArray 53 (0, 0)) at hb1
  refine allocC_of fun w3 hb3 hs3 hf3 => ?_
  change w3.heap[w1.heap.size]? = some (.cells (msgC (blank 0) none 0).toArray 53 (0, 0)) at hb3
  have h1 := hf3.keep hb1 id
  refine rd_of (v := .int .i64 m.kind) (cellOf h1 rfl) ?_
  simp only [vcs, eqV, nilV, Option.map_some, Nat.mul_one, implies_true, true_and, and_true, and_self]
  refine allocC_of fun w7 hb7 hs7 hf7 => ?_
  refine stC_all hb7 rfl (by intro v hv; exact msgC_one (m := blank m.kind) (q := none) (cq := 0) v hv) fun w8 hb8 hf8 => ?_
  obtain ⟨A, hA⟩ : ∃ A, A = w.heap.size := ⟨_, rfl⟩
  obtain ⟨O, hO⟩ : ∃ O, O = w1.heap.size := ⟨_, rfl⟩
  obtain ⟨X, hX⟩ : ∃ X, X = w3.heap.size := ⟨_, rfl⟩
  change w8.heap[w3.heap.size]? = some (.cells (msgC (blank m.kind) none 0).toArray 53 (0, 0)) at hb8
  rw [← hA] at h1 ⊢
  rw [← hO] at hb3 ⊢
  rw [← hX] at hb8 hf8 ⊢
  have hA8 : w8.heap[A]? = some (.cells (msgC m q c).toArray 53 (0, 0)) := hf8.keep (hf7.keep h1 id) (by omega)
  have hO8 : w8.heap[O]? = some (.cells (msgC (blank 0) none 0).toArray 53 (0, 0)) := hf8.keep (hf7.keep hb3 id) (by omega)
  have hF8 : Fm none' w w8 := ((hf1.trans hf3).trans hf7).trans' hf8 (by rintro i hi rfl; omega)
  refine ⟨fun _ w' => ∃ q' c', w'.heap[X]? = some (.cells (msgC (only m) q' c').toArray 53 (0, 0)) ∧ BytesAt w' q' (only m).bytes ∧ (∀ ad, q' = some ad → (only m).bytes ≠ [] → ad.block < w.heap.size) ∧ Fm (fun i => i = X) w8 w', ?_, ?_⟩
  · have hby8 := hby.keep hF8 fun _ _ => id
    refine rd_of (v := .int .i64 m.kind) (cellOf hA8 rfl) ?_
    simp only [vcs, eqV, nilV, Option.map_some, Nat.mul_one, implies_true, true_and, and_true, and_self]
    have done : ∀ {w' : World} {x : Msg}, only m = x → x.bytes = [] → w'.heap[X]? = some (.cells (msgC x none 0).toArray 53 (0, 0)) → Fm (fun i => i = X) w8 w' → ∃ q' c', w'.heap[X]? = some (.cells (msgC (only m) q' c').toArray 53 (0, 0)) ∧ BytesAt w' q' (only m).bytes ∧ (∀ ad, q' = some ad → (only m).bytes ≠ [] → ad.block < w.heap.size) ∧ Fm (fun i => i = X) w8 w' := by
      rintro w' x rfl hb hx hf
      exact ⟨none, 0, hx, by rw [hb]; exact BytesAt.none, fun ad e => (by cases e), hf⟩
    refine br_dec (fun k2 => ?_) (fun k2 => ?_)
    · refine rd_of (v := ([.int .u16 m.cq, .int .u8 m.cb, .int .i8 m.cdx, .int .i8 m.cdy, .int .i64 m.ct] : List Value)) (cells_row hA8 (by simp [msgC])) ?_
      refine rd_of (v := ()) rfl ?_
      refine stC_at hb8 (by simp [msgC]) (by intro v hv; simp at hv; rcases hv with rfl | rfl | rfl | rfl | rfl <;> rfl) fun w13 hb13 hf13 => ?_
      exact done (x := { blank m.kind with cq := m.cq, cb := m.cb, cdx := m.cdx, cdy := m.cdy, ct := m.ct }) (by unfold only; rw [if_pos k2]) rfl hb13 hf13
    refine br_dec (fun k3 => ?_) (fun k3 => ?_)
    · refine rd_of (v := .int .u16 m.prov) (cellOf hA8 rfl) ?_
      simp only [vcs, eqV, nilV, Option.map_some, Nat.mul_one, implies_true, true_and, and_true, and_self]
      refine stC_one hb8 (by simp [msgC]) rfl fun w16 hb16 hf16 => ?_
      have hA16 := hf16.keep hA8 (by omega)
      refine rd_of (v := .int .i64 m.shot) (cellOf hA16 rfl) ?_
      simp only [vcs, eqV, nilV, Option.map_some, Nat.mul_one, implies_true, true_and, and_true, and_self]
      refine stC_one hb16 (by simp [msgC]) rfl fun w19 hb19 hf19 => ?_
      have hA19 := hf19.keep hA16 (by omega)
      refine rd_of (v := ([.int .i64 m.d0, .int .i64 m.d1, .int .i64 m.d2] : List Value)) (cells_row hA19 (by simp [msgC])) ?_
      refine rd_of (v := ()) rfl ?_
      refine stC_at hb19 (by simp [msgC]) (by intro v hv; simp at hv; rcases hv with rfl | rfl | rfl <;> rfl) fun w13 hb13 hf13 => ?_
      exact done (x := { blank m.kind with prov := m.prov, shot := m.shot, d0 := m.d0, d1 := m.d1, d2 := m.d2 }) (by unfold only; rw [if_neg k2, if_pos k3]) rfl hb13 ((hf16.trans hf19).trans hf13)
    refine br_dec (fun k5 => ?_) (fun k5 => ?_)
    · refine rd_of (v := .int .i64 m.id) (cellOf hA8 rfl) ?_
      simp only [vcs, eqV, nilV, Option.map_some, Nat.mul_one, implies_true, true_and, and_true, and_self]
      refine stC_one hb8 (by simp [msgC]) rfl fun w16 hb16 hf16 => ?_
      exact done (x := { blank m.kind with id := m.id }) (by unfold only; rw [if_neg k2, if_neg k3, if_neg (by omega), if_neg (by omega), if_pos k5]) rfl hb16 hf16
    refine br_dec (fun k6 => ?_) (fun k6 => ?_)
    · refine rd_of (v := .int .u16 m.seq) (cellOf hA8 rfl) ?_
      simp only [vcs, eqV, nilV, Option.map_some, Nat.mul_one, implies_true, true_and, and_true, and_self]
      refine stC_one hb8 (by simp [msgC]) rfl fun w16 hb16 hf16 => ?_
      have hA16 := hf16.keep hA8 (by omega)
      refine rd_of (v := ([.int .i64 m.p0, .int .i64 m.p1, .int .i64 m.p2] : List Value)) (cells_row hA16 (by simp [msgC])) ?_
      refine rd_of (v := ()) rfl ?_
      refine stC_at hb16 (by simp [msgC]) (by intro v hv; simp at hv; rcases hv with rfl | rfl | rfl <;> rfl) fun w19 hb19 hf19 => ?_
      have hA19 := hf19.keep hA16 (by omega)
      refine rd_of (v := ([.int .i64 m.v0, .int .i64 m.v1, .int .i64 m.v2] : List Value)) (cells_row hA19 (by simp [msgC])) ?_
      refine rd_of (v := ()) rfl ?_
      refine stC_at hb19 (by simp [msgC]) (by intro v hv; simp at hv; rcases hv with rfl | rfl | rfl <;> rfl) fun w13 hb13 hf13 => ?_
      exact done (x := { blank m.kind with seq := m.seq, p0 := m.p0, p1 := m.p1, p2 := m.p2, v0 := m.v0, v1 := m.v1, v2 := m.v2 }) (by unfold only; rw [if_neg k2, if_neg k3, if_pos k6]) rfl hb13 ((hf16.trans hf19).trans hf13)
    refine br_dec (fun k7 => ?_) (fun k7 => ?_)
    · refine rd_of (v := .int .u16 m.prov) (cellOf hA8 rfl) ?_
      simp only [vcs, eqV, nilV, Option.map_some, Nat.mul_one, implies_true, true_and, and_true, and_self]
      refine stC_one hb8 (by simp [msgC]) rfl fun w16 hb16 hf16 => ?_
      have hA16 := hf16.keep hA8 (by omega)
      refine rd_of (v := .int .i64 m.id) (cellOf hA16 rfl) ?_
      simp only [vcs, eqV, nilV, Option.map_some, Nat.mul_one, implies_true, true_and, and_true, and_self]
      refine stC_one hb16 (by simp [msgC]) rfl fun w19 hb19 hf19 => ?_
      exact done (x := { blank m.kind with prov := m.prov, id := m.id }) (by unfold only; rw [if_neg k2, if_neg k3, if_neg k6, if_pos k7]) rfl hb19 (hf16.trans hf19)
    refine br_dec (fun k8 => ?_) (fun k8 => ?_)
    · refine rd_of (v := .int .u16 m.prov) (cellOf hA8 rfl) ?_
      simp only [vcs, eqV, nilV, Option.map_some, Nat.mul_one, implies_true, true_and, and_true, and_self]
      refine stC_one hb8 (by simp [msgC]) rfl fun w16 hb16 hf16 => ?_
      have hA16 := hf16.keep hA8 (by omega)
      refine rd_of (v := .int .i64 m.why) (cellOf hA16 rfl) ?_
      simp only [vcs, eqV, nilV, Option.map_some, Nat.mul_one, implies_true, true_and, and_true, and_self]
      refine stC_one hb16 (by simp [msgC]) rfl fun w19 hb19 hf19 => ?_
      exact done (x := { blank m.kind with prov := m.prov, why := m.why }) (by unfold only; rw [if_neg k2, if_neg k3, if_neg k6, if_neg k7, if_neg k5, if_pos k8]) rfl hb19 (hf16.trans hf19)
    refine br_dec (fun k9 => ?_) (fun k9 => ?_)
    · refine rd_of (v := .int .u32 m.tick) (cellOf hA8 rfl) ?_
      simp only [vcs, eqV, nilV, Option.map_some, Nat.mul_one, implies_true, true_and, and_true, and_self]
      refine stC_one hb8 (by simp [msgC]) rfl fun w16 hb16 hf16 => ?_
      have hA16 := hf16.keep hA8 (by omega)
      refine rd_of (v := .int .u32 m.bse) (cellOf hA16 rfl) ?_
      simp only [vcs, eqV, nilV, Option.map_some, Nat.mul_one, implies_true, true_and, and_true, and_self]
      refine stC_one hb16 (by simp [msgC]) rfl fun w19 hb19 hf19 => ?_
      have hA19 := hf19.keep hA16 (by omega)
      refine rd_of (v := .slice q m.bytes.length c) (cellOf hA19 rfl) ?_
      simp only [vcs, eqV, nilV, Option.map_some, Nat.mul_one, implies_true, true_and, and_true, and_self]
      refine stC_one hb19 (by simp [msgC]) rfl fun w22 hb22 hf22 => ?_
      have e : only m = { blank m.kind with tick := m.tick, bse := m.bse, bytes := m.bytes } := by unfold only; rw [if_neg k2, if_neg k3, if_neg k6, if_neg k7, if_neg k5, if_neg k8, if_pos k9]
      rw [e]
      have hf := (hf16.trans hf19).trans hf22
      exact ⟨q, c, hb22, hby8.keepN hf fun ad e hne => by have := hby.lt ad e hne; omega, hby.lt, hf⟩
    · exact done (x := blank m.kind) (by unfold only; rw [if_neg k2, if_neg k3, if_neg k6, if_neg k7, if_neg k5, if_neg k8, if_neg k9]) rfl hb8 (Fm.refl _ _)
  · rintro - w57 ⟨q', c', hx57, hby57, hlt57, hf57⟩
    refine rd_of (v := msgC (only m) q' c') (cells_all hx57 rfl) ?_
    refine rd_of (v := ()) rfl ?_
    have hO57 := hf57.keep hO8 (by omega)
    refine stC_all hO57 rfl msgC_one fun w60 hb60 hf60 => ?_
    refine rd_of (v := msgC (only m) q' c') (cells_all hb60 rfl) ?_
    refine ⟨q', c', rfl, hby57.keepN hf60 fun ad e hne => (by have := hlt57 ad e hne; omega), (hF8.trans' hf57 (by rintro i hi rfl; omega)).trans' hf60 (by rintro i hi rfl; omega)⟩
instance (m : Msg) : Decidable (fits m) := by unfold fits; infer_instance
/-- The words of Right, one by one. -/
theorem ref_iff {m : Msg} (hm : Mok m) (hl : m.bytes.length < 9223372036854775807) (ho : m = only m) (h1 : 1 ≤ m.kind) (h9 : m.kind ≤ 9) : rightM m = decide (fits m) := by
  rw [Bool.eq_iff_iff, right_iff hm hl, decide_eq_true_eq]
  exact ⟨fun h => h.2.1, fun h => ⟨⟨h1, h9⟩, h, ho⟩⟩
theorem only_bytes (m : Msg) : ∀ y ∈ (only m).bytes, y ∈ m.bytes := by
  unfold only
  repeat' split
  all_goals first | (intro y hy; exact hy) | (intro y hy; cases hy)
set_option maxRecDepth 20000 in
set_option maxHeartbeats 4000000 in
theorem right17_c {m : Msg} {q : Option Addr} {c : Nat} (hm : Mok m) (hl : m.bytes.length < 9223372036854775807) (hby : BytesAt w q m.bytes) :
    callV Tryd.prog 50 [.agg (msgC m q c).toArray] w fun v w' => v = .bool (rightM m) ∧ Fm none' w w' := by
  unfold msgC
  apply vc50
  refine allocC_of fun w1 hb1 hs1 hf1 => ?_
  change w1.heap[w.heap.size]? = some (.cells (msgC m q c).toArray 53 (0, 0)) at hb1
  obtain ⟨A, hA⟩ : ∃ A, A = w.heap.size := ⟨_, rfl⟩
  rw [← hA] at hb1 ⊢
  refine ⟨fun u w' => u 3 = .bool (decide (m = only m)) ∧ Fm none' w1 w', ?_, ?_⟩
  · have hb1' : w1.drew.heap[A]? = some (.cells (msgC m q c).toArray 53 (0, 0)) := hb1
    refine ⟨fun w' => w'.heap[A]? = some (.cells (msgC m q c).toArray 53 (0, 0)), hb1', ?_⟩
    refine rd_of (v := msgC m q c) (cells_all hb1' rfl) ⟨fun w' hw => rd_of (cells_all hw rfl) ⟨rfl, rfl⟩, ?_⟩
    refine rd_of (v := msgC m q c) (cells_all hb1' rfl) ⟨fun w' hw => rd_of (cells_all hw rfl) ⟨rfl, rfl⟩, ?_⟩
    have hby1 := hby.keep (hf1.trans (Fm.drew w1)) fun _ _ => id
    refine (only28_c hby1).mono ?_
    rintro _ w13 ⟨q', c', rfl, hby13, hf13⟩
    refine ⟨hf13.keep hb1' id, ?_⟩
    refine (same27_c (hby1.keep hf13 fun _ _ => id) hby13 hm.bytes fun y hy => hm.bytes y (only_bytes m y hy)).mono ?_
    rintro _ w15 ⟨rfl, hf15⟩
    simp only [vcs, eqV, nilV, Option.map_some, Nat.mul_one, implies_true, true_and, and_true, and_self]
    exact ⟨hf15.keep (hf13.keep hb1' id) id, rfl, ((Fm.drew w1).trans hf13).trans hf15⟩
  rintro u w21 ⟨h3, hf21⟩
  change u 3 = _ at h3
  have h21 := hf21.keep hb1 id
  have hF21 := hf1.trans hf21
  have no : rightM m = false → Value.bool false = Value.bool (rightM m) ∧ Fm none' w w21 := fun h => ⟨by rw [h], hF21⟩
  simp only [h3, vcs, eqV, nilV, Option.map_some, Nat.mul_one, implies_true, true_and, and_true, and_self]
  refine ⟨fun _ w' => (m = only m ∧ 1 ≤ m.kind ∧ m.kind ≤ 9) ∧ w' = w21, ?_, ?_⟩
  · refine br_ndec (fun h => no ?_) (fun ho => ?_)
    · cases hr : rightM m with
      | false => rfl
      | true => exact absurd ((right_iff hm hl).1 hr).2.2 h
    refine rd_of (v := .int .i64 m.kind) (cellOf h21 rfl) ?_
    simp only [vcs, eqV, nilV, Option.map_some, Nat.mul_one, implies_true, true_and, and_true, and_self]
    refine br_dec (fun h => no ?_) (fun h1 => ?_)
    · cases hr : rightM m with
      | false => rfl
      | true => have := ((right_iff hm hl).1 hr).1; omega
    refine rd_of (v := .int .i64 m.kind) (cellOf h21 rfl) ?_
    simp only [vcs, eqV, nilV, Option.map_some, Nat.mul_one, implies_true, true_and, and_true, and_self]
    refine br_dec (fun h => no ?_) (fun h9 => ⟨ho, by omega, by omega⟩)
    cases hr : rightM m with
    | false => rfl
    | true => have := ((right_iff hm hl).1 hr).1; omega
  rintro - w31 ⟨⟨ho, h1, h9⟩, e⟩
  obtain rfl : w21 = w31 := e.symm
  have hR := ref_iff hm hl ho h1 h9
  have fin : ∀ {t : Bool} {w' : World}, t = decide (fits m) → Fm none' w21 w' → Value.bool t = Value.bool (rightM m) ∧ Fm none' w w' := fun h hf => ⟨by rw [hR, h], hF21.trans hf⟩
  have r := Fm.refl none' w21
  refine rd_of (v := .int .i64 m.kind) (cellOf h21 rfl) ?_
  simp only [vcs, eqV, nilV, Option.map_some, Nat.mul_one, implies_true, true_and, and_true, and_self]
  have ff : ∀ {P : Prop}, (fits m ↔ P) → ¬ P → false = decide (fits m) := fun h hp => (decide_eq_false (fun hf => hp (h.1 hf))).symm
  have tt : ∀ {P Q : Prop} [Decidable Q], (fits m ↔ P) → (Q ↔ P) → decide Q = decide (fits m) := fun h hq => decide_eq_decide.2 (hq.trans h.symm)
  refine br_dec (fun k2 => ?_) (fun k2 => ?_)
  · have hf : fits m ↔ m.cb < 4 ∧ 1 ≤ m.ct ∧ m.ct ≤ 8 := by unfold fits; rw [if_pos k2]
    refine rd_of (v := .int .u8 m.cb) (cellOf h21 rfl) ?_
    simp only [vcs, eqV, nilV, Option.map_some, Nat.mul_one, implies_true, true_and, and_true, and_self]
    refine br_dec (fun a1 => ?_) (fun a1 => fin (ff hf (by omega)) r)
    refine rd_of (v := .int .i64 m.ct) (cellOf h21 rfl) ?_
    simp only [vcs, eqV, nilV, Option.map_some, Nat.mul_one, implies_true, true_and, and_true, and_self]
    refine br_dec (fun a2 => ?_) (fun a2 => fin (ff hf (by omega)) r)
    refine rd_of (v := .int .i64 m.ct) (cellOf h21 rfl) ?_
    simp only [vcs, eqV, nilV, Option.map_some, Nat.mul_one, implies_true, true_and, and_true, and_self]
    exact fin (tt hf (by omega)) r
  refine br_dec (fun k3 => ?_) (fun k3 => ?_)
  · have hf : fits m ↔ (0 ≤ m.shot ∧ m.shot ≤ 1) ∧ (-65536 ≤ m.d0 ∧ m.d0 ≤ 65536) ∧ (-65536 ≤ m.d1 ∧ m.d1 ≤ 65536) ∧ (-65536 ≤ m.d2 ∧ m.d2 ≤ 65536) := by unfold fits; rw [if_neg k2, if_pos k3]
    refine rd_of (v := .int .i64 m.shot) (cellOf h21 rfl) ?_
    simp only [vcs, eqV, nilV, Option.map_some, Nat.mul_one, implies_true, true_and, and_true, and_self]
    refine br_dec (fun a1 => ?_) (fun a1 => ?_)
    · refine rd_of (v := ([.int .i64 m.d0, .int .i64 m.d1, .int .i64 m.d2] : List Value)) (cells_row h21 (by simp [msgC])) ?_
      refine far29_c.mono ?_
      rintro _ w45 ⟨rfl, hf45⟩
      simp only [vcs, eqV, nilV, Option.map_some, Nat.mul_one, implies_true, true_and, and_true, and_self]
      exact fin (tt hf (by omega)) hf45
    · refine rd_of (v := .int .i64 m.shot) (cellOf h21 rfl) ?_
      simp only [vcs, eqV, nilV, Option.map_some, Nat.mul_one, implies_true, true_and, and_true, and_self]
      refine br_dec (fun a2 => ?_) (fun a2 => fin (ff hf (by omega)) r)
      refine rd_of (v := ([.int .i64 m.d0, .int .i64 m.d1, .int .i64 m.d2] : List Value)) (cells_row h21 (by simp [msgC])) ?_
      refine far29_c.mono ?_
      rintro _ w45 ⟨rfl, hf45⟩
      simp only [vcs, eqV, nilV, Option.map_some, Nat.mul_one, implies_true, true_and, and_true, and_self]
      exact fin (tt hf (by omega)) hf45
  refine br_dec (fun k5 => ?_) (fun k5 => ?_)
  · have hf : fits m ↔ 1 ≤ m.id ∧ m.id < 2147483648 := by unfold fits; rw [if_neg k2, if_neg k3, if_neg (by omega), if_neg (by omega), if_pos k5]
    refine rd_of (v := .int .i64 m.id) (cellOf h21 rfl) ?_
    simp only [vcs, eqV, nilV, Option.map_some, Nat.mul_one, implies_true, true_and, and_true, and_self]
    refine br_dec (fun a1 => ?_) (fun a1 => fin (ff hf (by omega)) r)
    refine rd_of (v := .int .i64 m.id) (cellOf h21 rfl) ?_
    simp only [vcs, eqV, nilV, Option.map_some, Nat.mul_one, implies_true, true_and, and_true, and_self]
    exact fin (tt hf (by omega)) r
  refine br_dec (fun k7 => ?_) (fun k7 => ?_)
  · have hf : fits m ↔ 1 ≤ m.id ∧ m.id < 2147483648 := by unfold fits; rw [if_neg k2, if_neg k3, if_neg (by omega), if_pos k7]
    refine rd_of (v := .int .i64 m.id) (cellOf h21 rfl) ?_
    simp only [vcs, eqV, nilV, Option.map_some, Nat.mul_one, implies_true, true_and, and_true, and_self]
    refine br_dec (fun a1 => ?_) (fun a1 => fin (ff hf (by omega)) r)
    refine rd_of (v := .int .i64 m.id) (cellOf h21 rfl) ?_
    simp only [vcs, eqV, nilV, Option.map_some, Nat.mul_one, implies_true, true_and, and_true, and_self]
    exact fin (tt hf (by omega)) r
  refine br_dec (fun k6 => ?_) (fun k6 => ?_)
  · have hf : fits m ↔ ((-2147483648 ≤ m.p0 ∧ m.p0 < 2147483648) ∧ (-2147483648 ≤ m.p1 ∧ m.p1 < 2147483648) ∧ (-2147483648 ≤ m.p2 ∧ m.p2 < 2147483648)) ∧
        ((-2147483648 ≤ m.v0 ∧ m.v0 < 2147483648) ∧ (-2147483648 ≤ m.v1 ∧ m.v1 < 2147483648) ∧ (-2147483648 ≤ m.v2 ∧ m.v2 < 2147483648)) := by unfold fits; rw [if_neg k2, if_neg k3, if_pos k6]
    refine rd_of (v := ([.int .i64 m.p0, .int .i64 m.p1, .int .i64 m.p2] : List Value)) (cells_row h21 (by simp [msgC])) ?_
    refine far29_c.mono ?_
    rintro _ w45 ⟨rfl, hf45⟩
    simp only [vcs, eqV, nilV, Option.map_some, Nat.mul_one, implies_true, true_and, and_true, and_self]
    refine br_dec (fun a1 => ?_) (fun a1 => fin (ff hf (by omega)) hf45)
    refine rd_of (v := ([.int .i64 m.v0, .int .i64 m.v1, .int .i64 m.v2] : List Value)) (cells_row (hf45.keep h21 id) (by simp [msgC])) ?_
    refine far29_c.mono ?_
    rintro _ w46 ⟨rfl, hf46⟩
    simp only [vcs, eqV, nilV, Option.map_some, Nat.mul_one, implies_true, true_and, and_true, and_self]
    exact fin (tt hf (by omega)) (hf45.trans hf46)
  refine br_dec (fun k8 => ?_) (fun k8 => ?_)
  · have hf : fits m ↔ 1 ≤ m.why ∧ m.why ≤ 10 := by unfold fits; rw [if_neg k2, if_neg k3, if_neg k6, if_neg k7, if_neg k5, if_pos k8]
    refine rd_of (v := .int .i64 m.why) (cellOf h21 rfl) ?_
    simp only [vcs, eqV, nilV, Option.map_some, Nat.mul_one, implies_true, true_and, and_true, and_self]
    refine br_dec (fun a1 => ?_) (fun a1 => fin (ff hf (by omega)) r)
    refine rd_of (v := .int .i64 m.why) (cellOf h21 rfl) ?_
    simp only [vcs, eqV, nilV, Option.map_some, Nat.mul_one, implies_true, true_and, and_true, and_self]
    exact fin (tt hf (by omega)) r
  refine br_dec (fun k9 => ?_) (fun k9 => ?_)
  · have hf : fits m ↔ m.bytes.length ≤ 1023 := by unfold fits; rw [if_neg k2, if_neg k3, if_neg k6, if_neg k7, if_neg k5, if_neg k8, if_pos k9]
    refine rd_of (v := .slice q m.bytes.length c) (cellOf h21 rfl) ?_
    simp only [vcs, eqV, nilV, Option.map_some, Nat.mul_one, implies_true, true_and, and_true, and_self]
    exact fin (tt hf (by omega)) r
  · have hf : fits m := by unfold fits; rw [if_neg k2, if_neg k3, if_neg k6, if_neg k7, if_neg k5, if_neg k8, if_neg k9]; trivial
    exact fin (decide_eq_true hf).symm r
end Go.Proofs.YtipikchkbmgloaaDoor
/- the reference: a message's bits.  Conditions: the message's fields are in their types' ranges; its bytes may be read. -/
namespace Go.Proofs.YtipikchkbmgloaaDoor
set_option linter.unusedSimpArgs false
set_option linter.unusedVariables false
open Go Go.RowKit VC
variable {w : World}
theorem textX (x : Int) (k : Nat) (hk : k ≤ 64) : callV Tryd.prog 77 [.int .u64 (IntKind.u64.wrap x), .int .i64 k] w fun v w' => v = .string (txt (bitsOf (IntKind.u64.wrap x) k)) ∧ Fm none' w w' := by
  obtain ⟨m, hm, hlt⟩ := u64_nat x
  rw [hm]
  exact text47_c m k hlt hk
theorem cat3 {S : World → Prop} {K : ByteArray → Prop} {xs ys : List Int} (h : xs.length + ys.length ≤ 1000000000) (k : K (txt (xs ++ ys))) :
    rd (orO (binV .add (.string (txt xs)) (.string (txt ys))) none) fun v => (∀ w' : World, S w' → rd (orO (binV .add (.string (txt xs)) (.string (txt ys))) none) fun v' => v' = v) ∧ isStr v K :=
  cat_txt h ⟨fun _ _ => cat_txt h rfl, k⟩
theorem cat1 {K : ByteArray → Prop} {xs ys : List Int} (h : xs.length + ys.length ≤ 1000000000) (k : K (txt (xs ++ ys))) :
    rd (orO (binV .add (.string (txt xs)) (.string (txt ys))) none) fun v => isStr v K := cat_txt h k
set_option maxRecDepth 20000 in
theorem vec62_c {a0 a1 a2 : Int} {k : Nat} (hk : k ≤ 64) : callV Tryd.prog 91 [.agg #[.int .i64 a0, .int .i64 a1, .int .i64 a2], .int .i64 k] w fun v w' => v = .string (txt (vecB [a0, a1, a2] k)) ∧ Fm none' w w' := by
  refine vc91 a0 a1 a2 k w _ ?_
  refine allocC_of fun w1 hb1 hs1 hf1 => ?_
  have hb : w1.drew.heap[w.heap.size]? = some (.cells #[.int .i64 a0, .int .i64 a1, .int .i64 a2] 51 (0, 0)) := hb1
  refine ⟨fun w' => w'.heap[w.heap.size]? = some (.cells #[.int .i64 a0, .int .i64 a1, .int .i64 a2] 51 (0, 0)), hb, ?_⟩
  simp only [vcs, eqV, nilV, Option.map_some, Nat.mul_one, implies_true, true_and, and_true, and_self]
  refine rd_of (v := .int .i64 a0) (cellOf hb rfl) ⟨fun w' hw => rd_of (cellOf hw rfl) rfl, ?_⟩
  simp only [vcs, eqV, nilV, Option.map_some, Nat.mul_one, implies_true, true_and, and_true, and_self]
  refine rd_of (v := .int .i64 a1) (cellOf hb rfl) ⟨fun w' hw => rd_of (cellOf hw rfl) rfl, ?_⟩
  simp only [vcs, eqV, nilV, Option.map_some, Nat.mul_one, implies_true, true_and, and_true, and_self]
  refine rd_of (v := .int .i64 a2) (cellOf hb rfl) ⟨fun w' hw => rd_of (cellOf hw rfl) rfl, ?_⟩
  simp only [vcs, eqV, nilV, Option.map_some, Nat.mul_one, implies_true, true_and, and_true, and_self]
  refine (textX a0 k hk).mono ?_
  rintro _ w37 ⟨rfl, hf37⟩
  simp only [vcs, eqV, nilV, Option.map_some, Nat.mul_one, implies_true, true_and, and_true, and_self]
  refine ⟨hf37.keep hb id, (textX a1 k hk).mono ?_⟩
  rintro _ w40 ⟨rfl, hf40⟩
  simp only [vcs, eqV, nilV, Option.map_some, Nat.mul_one, implies_true, true_and, and_true, and_self]
  refine ⟨hf40.keep (hf37.keep hb id) id, cat3 (by rw [bitsOf_length, bitsOf_length]; omega) ?_⟩
  refine (textX a2 k hk).mono ?_
  rintro _ w48 ⟨rfl, hf48⟩
  simp only [vcs, eqV, nilV, Option.map_some, Nat.mul_one, implies_true, true_and, and_true, and_self]
  refine ⟨hf48.keep (hf40.keep (hf37.keep hb id) id) id, cat3 (by rw [List.length_append, bitsOf_length, bitsOf_length, bitsOf_length]; omega) ?_⟩
  refine ⟨?_, (((hf1.trans (Fm.drew w1)).trans hf37).trans hf40).trans hf48⟩
  simp only [vecB, vecBits, List.flatMap_cons, List.flatMap_nil, List.append_nil, List.append_assoc]
set_option maxRecDepth 20000 in
theorem of33_c {ys : List Int} (hy : ∀ y ∈ ys, 0 ≤ y ∧ y < 256) (hl : ys.length ≤ 100000) : callV Tryd.prog 56 [.string (strOfNums ys)] w fun v w' => v = .string (txt (byteBits ys)) ∧ Fm none' w w' := by
  refine vc56 _ w _ ?_
  rw [strOfNums_size]
  refine ⟨fun u w' => ∃ j : Nat, j ≤ ys.length ∧ u 3 = .string (txt (byteBits (ys.take j))) ∧ u 4 = .int .i64 j ∧ Fm none' w w', fun u _ => ys.length - (intOf (u 4)).toNat, ⟨0, by omega, rfl, rfl, Fm.refl _ _⟩, ?_⟩
  rintro u w3 ⟨j, hj, h3, h4, hF⟩
  change u 3 = _ at h3
  change u 4 = _ at h4
  simp only [h3, h4, vcs, eqV, nilV, Option.map_some, Nat.mul_one, implies_true, true_and, and_true, and_self]
  refine br_dec (fun hjl => ?_) (fun hjl => ?_)
  · obtain ⟨y, hyj⟩ : ∃ y, ys[j]? = some y := ⟨ys[j]'(by omega), by simp⟩
    refine index_str (by rw [row9]) hy hyj ?_
    simp only [vcs, eqV, nilV, Option.map_some, Nat.mul_one, implies_true, true_and, and_true, and_self]
    refine (textX y 8 (by omega)).mono ?_
    rintro _ w12 ⟨rfl, hf12⟩
    simp only [vcs, eqV, nilV, Option.map_some, Nat.mul_one, implies_true, true_and, and_true, and_self]
    have hlt : (ys.take j).length ≤ ys.length := by rw [List.length_take]; omega
    refine cat1 (by rw [byteBits_length, bitsOf_length]; omega) ?_
    rw [w64 (by omega)]
    refine ⟨⟨j + 1, by omega, ?_, rfl, hF.trans hf12⟩, ?_⟩
    · show Value.string _ = _
      rw [List.take_add_one, hyj, byteBits_app]
      simp [byteBits]
    · show ys.length - ((j : Int) + 1).toNat < ys.length - (j : Int).toNat; omega
  · have : j = ys.length := by omega
    subst this
    rw [List.take_length]
    exact ⟨rfl, hF⟩
set_option maxRecDepth 20000 in
set_option maxHeartbeats 4000000 in
theorem bits48_c {m : Msg} {q : Option Addr} {c : Nat} (hm : Mok m) (hl : m.bytes.length ≤ 2000) (hby : BytesAt w q m.bytes) (h1 : 1 ≤ m.kind) (h9 : m.kind ≤ 9) :
    callV Tryd.prog 78 [.agg (msgC m q c).toArray] w fun v w' => v = .string (txt (oneBits m)) ∧ Fm none' w w' := by
  unfold msgC
  apply vc78
  refine allocC_of fun w1 hb1 hs1 hf1 => ?_
  change w1.heap[w.heap.size]? = some (.cells (msgC m q c).toArray 53 (0, 0)) at hb1
  obtain ⟨A, hA⟩ : ∃ A, A = w.heap.size := ⟨_, rfl⟩
  rw [← hA] at hb1 ⊢
  refine rd_of (v := .int .i64 m.kind) (cellOf hb1 rfl) ?_
  simp only [vcs, eqV, nilV, Option.map_some, Nat.mul_one, implies_true, true_and, and_true, and_self]
  refine (textX m.kind 4 (by omega)).mono ?_
  rintro _ w5 ⟨rfl, hf5⟩
  simp only [vcs, eqV, nilV, Option.map_some, Nat.mul_one, implies_true, true_and, and_true, and_self]
  have hb5 := hf5.keep hb1 id
  refine rd_of (v := .int .u16 m.prov) (cellOf hb5 rfl) ?_
  simp only [vcs, eqV, nilV, Option.map_some, Nat.mul_one, implies_true, true_and, and_true, and_self]
  refine (textX m.prov 16 (by omega)).mono ?_
  rintro _ w10 ⟨rfl, hf10⟩
  simp only [vcs, eqV, nilV, Option.map_some, Nat.mul_one, implies_true, true_and, and_true, and_self]
  have hb10 := hf10.keep hb5 id
  have hF10 := (hf1.trans hf5).trans hf10
  refine rd_of (v := .int .i64 m.kind) (cellOf hb10 rfl) ?_
  simp only [vcs, eqV, nilV, Option.map_some, Nat.mul_one, implies_true, true_and, and_true, and_self]
  have fin : ∀ {bs : List Int} {w' : World}, fieldBits m = bs → Fm none' w10 w' → ∀ {x : List Int}, x = bitsOf (IntKind.u64.wrap m.kind) 4 ++ bs → Value.string (txt x) = .string (txt (oneBits m)) ∧ Fm none' w w' := by
    rintro bs w' rfl hf x rfl
    exact ⟨rfl, hF10.trans hf⟩
  have hd := Fm.drew w10
  have hbd : w10.drew.heap[A]? = some (.cells (msgC m q c).toArray 53 (0, 0)) := hb10
  have ln : ∀ x k, (bitsOf x k).length = k := bitsOf_length
  have lv : ∀ x y z k, (vecB [x, y, z] k).length = 3 * k := fun x y z k => by
    simp only [vecB, vecBits, List.flatMap_cons, List.flatMap_nil, List.length_append, bitsOf_length, List.length_nil]; omega
  refine br_dec (fun k2 => ?_) (fun k2 => ?_)
  · refine rd_of (v := ([.int .u16 m.cq, .int .u8 m.cb, .int .i8 m.cdx, .int .i8 m.cdy, .int .i64 m.ct] : List Value)) (cells_row hb10 (by simp [msgC])) ?_
    refine allocC_of fun w16 hb16 hs16 hf16 => ?_
    refine rd_of (v := ()) rfl ?_
    refine stC_all hb16 rfl (by intro v hv; simp at hv; rcases hv with rfl | rfl | rfl | rfl | rfl <;> rfl) fun w17 hb17 hf17 => ?_
    obtain ⟨C, hC⟩ : ∃ C, C = w10.heap.size := ⟨_, rfl⟩
    rw [← hC] at hb17 hf17 ⊢
    have hF17 : Fm none' w10 w17 := hf16.trans' hf17 (by rintro i hi rfl; omega)
    have hbd2 : w17.drew.heap[C]? = some (.cells #[.int .u16 m.cq, .int .u8 m.cb, .int .i8 m.cdx, .int .i8 m.cdy, .int .i64 m.ct] 49 (0, 0)) := hb17
    refine ⟨fun w' => w'.heap[C]? = some (.cells #[.int .u16 m.cq, .int .u8 m.cb, .int .i8 m.cdx, .int .i8 m.cdy, .int .i64 m.ct] 49 (0, 0)), hbd2, ?_⟩
    simp only [vcs, eqV, nilV, Option.map_some, Nat.mul_one, implies_true, true_and, and_true, and_self]
    refine rd_of (v := .int .u16 m.cq) (cellOf hbd2 rfl) ⟨fun w' hw => rd_of (cellOf hw rfl) rfl, ?_⟩
    simp only [vcs, eqV, nilV, Option.map_some, Nat.mul_one, implies_true, true_and, and_true, and_self]
    refine rd_of (v := .int .u8 m.cb) (cellOf hbd2 rfl) ⟨fun w' hw => rd_of (cellOf hw rfl) rfl, ?_⟩
    simp only [vcs, eqV, nilV, Option.map_some, Nat.mul_one, implies_true, true_and, and_true, and_self]
    refine (textX m.cq 16 (by omega)).mono ?_
    rintro _ w40 ⟨rfl, hf40⟩
    simp only [vcs, eqV, nilV, Option.map_some, Nat.mul_one, implies_true, true_and, and_true, and_self]
    refine ⟨hf40.keep hbd2 id, cat3 (by simp only [List.length_append, ln]; omega) ?_⟩
    refine (textX m.cb 2 (by omega)).mono ?_
    rintro _ w48 ⟨rfl, hf48⟩
    simp only [vcs, eqV, nilV, Option.map_some, Nat.mul_one, implies_true, true_and, and_true, and_self]
    have hb48 := hf48.keep (hf40.keep hbd2 id) id
    refine ⟨hb48, cat3 (by simp only [List.length_append, ln]; omega) ?_⟩
    have hb48' : w48.drew.heap[C]? = some (.cells #[.int .u16 m.cq, .int .u8 m.cb, .int .i8 m.cdx, .int .i8 m.cdy, .int .i64 m.ct] 49 (0, 0)) := hb48
    refine ⟨fun w' => w'.heap[C]? = some (.cells #[.int .u16 m.cq, .int .u8 m.cb, .int .i8 m.cdx, .int .i8 m.cdy, .int .i64 m.ct] 49 (0, 0)), hb48', ?_⟩
    simp only [vcs, eqV, nilV, Option.map_some, Nat.mul_one, implies_true, true_and, and_true, and_self]
    refine rd_of (v := .int .i8 m.cdx) (cellOf hb48' rfl) ⟨fun w' hw => rd_of (cellOf hw rfl) rfl, ?_⟩
    simp only [vcs, eqV, nilV, Option.map_some, Nat.mul_one, implies_true, true_and, and_true, and_self]
    refine rd_of (v := .int .i8 m.cdy) (cellOf hb48' rfl) ⟨fun w' hw => rd_of (cellOf hw rfl) rfl, ?_⟩
    simp only [vcs, eqV, nilV, Option.map_some, Nat.mul_one, implies_true, true_and, and_true, and_self]
    refine rd_of (v := .int .i64 m.ct) (cellOf hb48' rfl) ⟨fun w' hw => rd_of (cellOf hw rfl) rfl, ?_⟩
    simp only [vcs, eqV, nilV, Option.map_some, Nat.mul_one, implies_true, true_and, and_true, and_self]
    refine (textX m.cdx 8 (by omega)).mono ?_
    rintro _ w90 ⟨rfl, hf90⟩
    simp only [vcs, eqV, nilV, Option.map_some, Nat.mul_one, implies_true, true_and, and_true, and_self]
    have hb90 := hf90.keep hb48' id
    refine ⟨hb90, cat3 (by simp only [List.length_append, ln]; omega) ?_⟩
    refine (textX m.cdy 8 (by omega)).mono ?_
    rintro _ w98 ⟨rfl, hf98⟩
    simp only [vcs, eqV, nilV, Option.map_some, Nat.mul_one, implies_true, true_and, and_true, and_self]
    have hb98 := hf98.keep hb90 id
    refine ⟨hb98, cat3 (by simp only [List.length_append, ln]; omega) ?_⟩
    refine (textX (IntKind.i64.wrap (m.ct - 1)) 3 (by omega)).mono ?_
    rintro _ w106 ⟨rfl, hf106⟩
    simp only [vcs, eqV, nilV, Option.map_some, Nat.mul_one, implies_true, true_and, and_true, and_self]
    refine ⟨hf106.keep hb98 id, cat3 (by simp only [List.length_append, ln]; omega) ?_⟩
    exact fin (bs := cmdBits m.cq m.cb m.cdx m.cdy m.ct) (by unfold fieldBits; rw [if_pos k2]) (((((((hF17.trans (Fm.drew w17)).trans hf40).trans hf48).trans (Fm.drew w48)).trans hf90).trans hf98).trans hf106) (by simp only [cmdBits, numBits, sgnBits, List.append_assoc])
  refine br_dec (fun k3 => ?_) (fun k3 => ?_)
  · refine ⟨fun w' => w'.heap[A]? = some (.cells (msgC m q c).toArray 53 (0, 0)), hbd, ?_⟩
    simp only [vcs, eqV, nilV, Option.map_some, Nat.mul_one, implies_true, true_and, and_true, and_self]
    refine cat_txt (by rw [ln, ln]; omega) ⟨fun _ _ => cat_txt (by rw [ln, ln]; omega) rfl, ?_⟩
    simp only [vcs, eqV, nilV, Option.map_some, Nat.mul_one, implies_true, true_and, and_true, and_self]
    refine rd_of (v := .int .i64 m.shot) (cellOf hbd rfl) ⟨fun w' hw => rd_of (cellOf hw rfl) rfl, ?_⟩
    simp only [vcs, eqV, nilV, Option.map_some, Nat.mul_one, implies_true, true_and, and_true, and_self]
    refine rd_of (v := ([.int .i64 m.d0, .int .i64 m.d1, .int .i64 m.d2] : List Value)) (cells_row hbd (by simp [msgC])) ⟨fun w' hw => rd_of (cells_row hw (by simp [msgC])) rfl, ?_⟩
    refine (textX m.shot 1 (by omega)).mono ?_
    rintro _ w141 ⟨rfl, hf141⟩
    simp only [vcs, eqV, nilV, Option.map_some, Nat.mul_one, implies_true, true_and, and_true, and_self]
    refine ⟨hf141.keep hbd id, cat3 (by simp only [List.length_append, ln]; omega) ?_⟩
    refine (vec62_c (k := 18) (by omega)).mono ?_
    rintro _ w148 ⟨rfl, hf148⟩
    simp only [vcs, eqV, nilV, Option.map_some, Nat.mul_one, implies_true, true_and, and_true, and_self]
    refine ⟨hf148.keep (hf141.keep hbd id) id, cat3 (by simp only [List.length_append, ln, lv]; omega) ?_⟩
    exact fin (bs := numBits m.prov 16 ++ (numBits m.shot 1 ++ vecB [m.d0, m.d1, m.d2] 18)) (by unfold fieldBits; rw [if_neg k2, if_pos k3]) ((hd.trans hf141).trans hf148) (by simp only [numBits, List.append_assoc])
  refine br_dec (fun k5 => ?_) (fun k5 => ?_)
  · refine rd_of (v := .int .i64 m.id) (cellOf hb10 rfl) ?_
    simp only [vcs, eqV, nilV, Option.map_some, Nat.mul_one, implies_true, true_and, and_true, and_self]
    refine (textX m.id 31 (by omega)).mono ?_
    rintro _ w141 ⟨rfl, hf141⟩
    simp only [vcs, eqV, nilV, Option.map_some, Nat.mul_one, implies_true, true_and, and_true, and_self]
    refine cat1 (by rw [ln, ln]; omega) ?_
    exact fin (bs := numBits m.id 31) (by unfold fieldBits; rw [if_neg k2, if_neg k3, if_neg (by omega), if_neg (by omega), if_pos k5]) hf141 rfl
  refine br_dec (fun k6 => ?_) (fun k6 => ?_)
  · refine ⟨fun w' => w'.heap[A]? = some (.cells (msgC m q c).toArray 53 (0, 0)), hbd, ?_⟩
    simp only [vcs, eqV, nilV, Option.map_some, Nat.mul_one, implies_true, true_and, and_true, and_self]
    refine rd_of (v := .int .u16 m.seq) (cellOf hbd rfl) ⟨fun w' hw => rd_of (cellOf hw rfl) rfl, ?_⟩
    simp only [vcs, eqV, nilV, Option.map_some, Nat.mul_one, implies_true, true_and, and_true, and_self]
    refine rd_of (v := ([.int .i64 m.p0, .int .i64 m.p1, .int .i64 m.p2] : List Value)) (cells_row hbd (by simp [msgC])) ⟨fun w' hw => rd_of (cells_row hw (by simp [msgC])) rfl, ?_⟩
    refine rd_of (v := ([.int .i64 m.v0, .int .i64 m.v1, .int .i64 m.v2] : List Value)) (cells_row hbd (by simp [msgC])) ⟨fun w' hw => rd_of (cells_row hw (by simp [msgC])) rfl, ?_⟩
    refine (textX m.seq 16 (by omega)).mono ?_
    rintro _ w141 ⟨rfl, hf141⟩
    simp only [vcs, eqV, nilV, Option.map_some, Nat.mul_one, implies_true, true_and, and_true, and_self]
    refine ⟨hf141.keep hbd id, cat3 (by simp only [List.length_append, ln]; omega) ?_⟩
    refine (vec62_c (k := 32) (by omega)).mono ?_
    rintro _ w148 ⟨rfl, hf148⟩
    simp only [vcs, eqV, nilV, Option.map_some, Nat.mul_one, implies_true, true_and, and_true, and_self]
    refine ⟨hf148.keep (hf141.keep hbd id) id, cat3 (by simp only [List.length_append, ln, lv]; omega) ?_⟩
    refine (vec62_c (k := 32) (by omega)).mono ?_
    rintro _ w149 ⟨rfl, hf149⟩
    simp only [vcs, eqV, nilV, Option.map_some, Nat.mul_one, implies_true, true_and, and_true, and_self]
    refine ⟨hf149.keep (hf148.keep (hf141.keep hbd id) id) id, cat3 (by simp only [List.length_append, ln, lv]; omega) ?_⟩
    exact fin (bs := numBits m.seq 16 ++ (vecB [m.p0, m.p1, m.p2] 32 ++ vecB [m.v0, m.v1, m.v2] 32)) (by unfold fieldBits; rw [if_neg k2, if_neg k3, if_pos k6]) (((hd.trans hf141).trans hf148).trans hf149) (by simp only [numBits, List.append_assoc])
  refine br_dec (fun k7 => ?_) (fun k7 => ?_)
  · refine cat1 (by simp only [ln]; omega) ?_
    refine rd_of (v := .int .i64 m.id) (cellOf hb10 rfl) ?_
    simp only [vcs, eqV, nilV, Option.map_some, Nat.mul_one, implies_true, true_and, and_true, and_self]
    refine (textX m.id 31 (by omega)).mono ?_
    rintro _ w141 ⟨rfl, hf141⟩
    simp only [vcs, eqV, nilV, Option.map_some, Nat.mul_one, implies_true, true_and, and_true, and_self]
    refine cat1 (by simp only [List.length_append, ln]; omega) ?_
    exact fin (bs := numBits m.prov 16 ++ numBits m.id 31) (by unfold fieldBits; rw [if_neg k2, if_neg k3, if_neg k6, if_pos k7]) hf141 (by simp only [numBits, List.append_assoc])
  refine br_dec (fun k8 => ?_) (fun k8 => ?_)
  · refine cat1 (by simp only [ln]; omega) ?_
    refine rd_of (v := .int .i64 m.why) (cellOf hb10 rfl) ?_
    simp only [vcs, eqV, nilV, Option.map_some, Nat.mul_one, implies_true, true_and, and_true, and_self]
    refine (textX m.why 4 (by omega)).mono ?_
    rintro _ w141 ⟨rfl, hf141⟩
    simp only [vcs, eqV, nilV, Option.map_some, Nat.mul_one, implies_true, true_and, and_true, and_self]
    refine cat1 (by simp only [List.length_append, ln]; omega) ?_
    exact fin (bs := numBits m.prov 16 ++ numBits m.why 4) (by unfold fieldBits; rw [if_neg k2, if_neg k3, if_neg k6, if_neg k7, if_neg k5, if_pos k8]) hf141 (by simp only [numBits, List.append_assoc])
  refine br_dec (fun k9 => ?_) (fun k9 => ?_)
  · refine ⟨fun w' => w'.heap[A]? = some (.cells (msgC m q c).toArray 53 (0, 0)), hbd, ?_⟩
    simp only [vcs, eqV, nilV, Option.map_some, Nat.mul_one, implies_true, true_and, and_true, and_self]
    refine rd_of (v := .int .u32 m.tick) (cellOf hbd rfl) ⟨fun w' hw => rd_of (cellOf hw rfl) rfl, ?_⟩
    simp only [vcs, eqV, nilV, Option.map_some, Nat.mul_one, implies_true, true_and, and_true, and_self]
    refine rd_of (v := .int .u32 m.bse) (cellOf hbd rfl) ⟨fun w' hw => rd_of (cellOf hw rfl) rfl, ?_⟩
    simp only [vcs, eqV, nilV, Option.map_some, Nat.mul_one, implies_true, true_and, and_true, and_self]
    refine rd_of (v := .slice q m.bytes.length c) (cellOf hbd rfl) ⟨fun w' hw => rd_of (cellOf hw rfl) rfl, ?_⟩
    simp only [vcs, eqV, nilV, Option.map_some, Nat.mul_one, implies_true, true_and, and_true, and_self]
    refine (textX m.tick 32 (by omega)).mono ?_
    rintro _ w141 ⟨rfl, hf141⟩
    simp only [vcs, eqV, nilV, Option.map_some, Nat.mul_one, implies_true, true_and, and_true, and_self]
    have hb141 := hf141.keep hbd id
    refine ⟨hb141, cat3 (by simp only [List.length_append, ln]; omega) ?_⟩
    refine (textX m.bse 32 (by omega)).mono ?_
    rintro _ w148 ⟨rfl, hf148⟩
    simp only [vcs, eqV, nilV, Option.map_some, Nat.mul_one, implies_true, true_and, and_true, and_self]
    have hb148 := hf148.keep hb141 id
    refine ⟨hb148, cat3 (by simp only [List.length_append, ln]; omega) ?_⟩
    refine (textX m.bytes.length 10 (by omega)).mono ?_
    rintro _ w284 ⟨rfl, hf284⟩
    simp only [vcs, eqV, nilV, Option.map_some, Nat.mul_one, implies_true, true_and, and_true, and_self]
    have hb284 := hf284.keep hb148 id
    refine ⟨hb284, cat3 (by simp only [List.length_append, ln]; omega) ?_⟩
    refine rd_of (v := .slice q m.bytes.length c) (cellOf hb284 rfl) ?_
    simp only [vcs, eqV, nilV, Option.map_some, Nat.mul_one, implies_true, true_and, and_true, and_self]
    have hF284 := ((hd.trans hf141).trans hf148).trans hf284
    refine conv_bytes (by rw [row25]) (by rw [row5]) (by rw [row9]) rfl (hby.keep (hF10.trans hF284) fun _ _ => id) ?_
    simp only [vcs, eqV, nilV, Option.map_some, Nat.mul_one, implies_true, true_and, and_true, and_self]
    refine (of33_c hm.bytes (by omega)).mono ?_
    rintro _ w301 ⟨rfl, hf301⟩
    simp only [vcs, eqV, nilV, Option.map_some, Nat.mul_one, implies_true, true_and, and_true, and_self]
    refine cat1 (by simp only [List.length_append, ln, byteBits_length]; omega) ?_
    exact fin (bs := numBits m.tick 32 ++ (numBits m.bse 32 ++ (numBits m.bytes.length 10 ++ byteBits m.bytes))) (by unfold fieldBits; rw [if_neg k2, if_neg k3, if_neg k6, if_neg k7, if_neg k5, if_neg k8, if_pos k9]) (hF284.trans hf301) (by simp only [numBits, List.append_assoc])
  · exact fin (bs := []) (by unfold fieldBits; rw [if_neg k2, if_neg k3, if_neg k6, if_neg k7, if_neg k5, if_neg k8, if_neg k9]) (Fm.refl _ _) (by simp)
end Go.Proofs.YtipikchkbmgloaaDoor
/- The conditions of functions, written out: printed by a small program (VCDev.lean, vcgen.sh).  Conditions: none. -/
namespace Go.Proofs.YtipikchkbmgloaaDoor
set_option linter.unusedSimpArgs false
set_option linter.unusedVariables false
open Go VC
theorem vc57 (a : Addr) (b : Int) (w : World) (R : Value → World → Prop)
  (h : callV Tryd.prog (83 : Nat) [Value.pointer (some a), Value.int IntKind.i64 b] w fun v0 w1 => isStr v0 fun x2 => callV Tryd.prog (84 : Nat) [Value.string x2] w1 fun v3 w4 => isK IntKind.u64 v3 fun i5 => R (Value.int IntKind.i64 (IntKind.wrap IntKind.i64 i5)) w4) :
  callV Tryd.prog 57 [Value.pointer (some a), Value.int IntKind.i64 b] w R :=
  vc_of hm noHints Tryd.func57 ent57 (by kernel_rfl) h

theorem vc58 (a : Addr) (b : Bool) (w : World) (R : Value → World → Prop)
  (h : br (!b) (rd (World.cell? w (Addr.add a (1 : Nat))) fun v0 => isK IntKind.i64 v0 fun i1 => br (decide (i1 = (0 : Int))) (stC w (Addr.add a (1 : Nat)) [Value.int IntKind.i64 (3 : Int)] fun w2 => R (Value.tuple #[]) w2) (R (Value.tuple #[]) w)) (R (Value.tuple #[]) w)) :
  callV Tryd.prog 58 [Value.pointer (some a), Value.bool b] w R :=
  vc_of hm noHints Tryd.func58 ent58 (by kernel_rfl) h

theorem vc60 (a : ByteArray) (w : World) (R : Value → World → Prop)
  (h : loopC (alist [((3 : Nat), Value.int IntKind.i64 (0 : Int))]) w fun u0 u1 => ∀ (u2 : Nat → Value) (w3 : World), u0 (alist [((3 : Nat), u2 (3 : Nat))]) w3 → isK IntKind.i64 (u2 (3 : Nat)) fun i5 => br (decide (i5 < (↑(ByteArray.size a) : Int))) (isK IntKind.i64 (u2 (3 : Nat)) fun i6 => runs Tryd.prog (Instr.index (9 : Nat) (Value.string a) (Value.int IntKind.i64 i6)) w3 fun v7 w8 => isK IntKind.u8 v7 fun i9 => br (!decide (i9 = (48 : Int))) (R (Value.bool false) w8) (isK IntKind.i64 (u2 (3 : Nat)) fun i10 => again u0 u1 (alist [((3 : Nat), Value.int IntKind.i64 (IntKind.wrap IntKind.i64 (i10 + (1 : Int))))]) w8 (alist [((3 : Nat), u2 (3 : Nat))]) w3)) (R (Value.bool (decide ((↑(ByteArray.size a) : Int) < (8 : Int)))) w3)) :
  callV Tryd.prog 60 [Value.string a] w R :=
  vc_of hm ⟨fun _ => false, fun _ => .done, fun n => match n with | 2 => [3] | _ => []⟩ Tryd.func60 ent60 (by kernel_rfl) h

theorem vc83 (a : Addr) (b : Int) (w : World) (R : Value → World → Prop)
  (h : rd (World.cell? w (Addr.add a (1 : Nat))) fun v0 => isK IntKind.i64 v0 fun i1 => br (decide (i1 = (0 : Int))) (rd (World.cell? w a) fun v2 => isStr v2 fun x3 => br (decide ((↑(ByteArray.size x3) : Int) < b)) (stC w (Addr.add a (1 : Nat)) [Value.int IntKind.i64 (2 : Int)] fun w4 => rd (World.cell? w4 (Addr.add a (1 : Nat))) fun v5 => isK IntKind.i64 v5 fun i6 => br (!decide (i6 = (0 : Int))) (R (Value.string { data := #[] : ByteArray }) w4) (rd (World.cell? w4 a) fun v7 => isStr v7 fun x8 => runs Tryd.prog (Instr.sliceAt (9 : Nat) (Value.string x8) none (some (Value.int IntKind.i64 b)) none) w4 fun v9 w10 => isStr v9 fun x11 => rd (World.cell? w10 a) fun v12 => isStr v12 fun x13 => runs Tryd.prog (Instr.sliceAt (9 : Nat) (Value.string x13) (some (Value.int IntKind.i64 b)) none none) w10 fun v14 w15 => isStr v14 fun x16 => stC w15 a [Value.string x16] fun w17 => R (Value.string x11) w17)) (rd (World.cell? w (Addr.add a (1 : Nat))) fun v18 => isK IntKind.i64 v18 fun i19 => br (!decide (i19 = (0 : Int))) (R (Value.string { data := #[] : ByteArray }) w) (rd (World.cell? w a) fun v20 => isStr v20 fun x21 => runs Tryd.prog (Instr.sliceAt (9 : Nat) (Value.string x21) none (some (Value.int IntKind.i64 b)) none) w fun v22 w23 => isStr v22 fun x24 => rd (World.cell? w23 a) fun v25 => isStr v25 fun x26 => runs Tryd.prog (Instr.sliceAt (9 : Nat) (Value.string x26) (some (Value.int IntKind.i64 b)) none none) w23 fun v27 w28 => isStr v27 fun x29 => stC w28 a [Value.string x29] fun w30 => R (Value.string x24) w30))) (rd (World.cell? w (Addr.add a (1 : Nat))) fun v31 => isK IntKind.i64 v31 fun i32 => br (!decide (i32 = (0 : Int))) (R (Value.string { data := #[] : ByteArray }) w) (rd (World.cell? w a) fun v33 => isStr v33 fun x34 => runs Tryd.prog (Instr.sliceAt (9 : Nat) (Value.string x34) none (some (Value.int IntKind.i64 b)) none) w fun v35 w36 => isStr v35 fun x37 => rd (World.cell? w36 a) fun v38 => isStr v38 fun x39 => runs Tryd.prog (Instr.sliceAt (9 : Nat) (Value.string x39) (some (Value.int IntKind.i64 b)) none none) w36 fun v40 w41 => isStr v40 fun x42 => stC w41 a [Value.string x42] fun w43 => R (Value.string x37) w43))) :
  callV Tryd.prog 83 [Value.pointer (some a), Value.int IntKind.i64 b] w R :=
  vc_of hm noHints Tryd.func83 ent83 (by kernel_rfl) h

theorem vc85 (a : Addr) (b : Int) (w : World) (R : Value → World → Prop)
  (h : callV Tryd.prog (83 : Nat) [Value.pointer (some a), Value.int IntKind.i64 b] w fun v0 w1 => isStr v0 fun x2 => callV Tryd.prog (92 : Nat) [Value.string x2] w1 fun v3 w4 => isK IntKind.i64 v3 fun i5 => R (Value.int IntKind.i64 i5) w4) :
  callV Tryd.prog 85 [Value.pointer (some a), Value.int IntKind.i64 b] w R :=
  vc_of hm noHints Tryd.func85 ent85 (by kernel_rfl) h

theorem vc86 (a : Addr) (b : Int) (c : Int) (w : World) (R : Value → World → Prop)
  (h : allocC w (Obj.cells #[Value.int IntKind.i64 (0 : Int), Value.int IntKind.i64 (0 : Int), Value.int IntKind.i64 (0 : Int)] (51 : Nat)) fun n0 w1 => allocC w1 (Obj.cells #[Value.int IntKind.i64 (0 : Int), Value.int IntKind.i64 (0 : Int), Value.int IntKind.i64 (0 : Int)] (51 : Nat)) fun n2 w3 => stC w3 { block := n2, off := (0 : Nat) : Addr } [Value.int IntKind.i64 (0 : Int), Value.int IntKind.i64 (0 : Int), Value.int IntKind.i64 (0 : Int)] fun w4 => callV Tryd.prog (85 : Nat) [Value.pointer (some a), Value.int IntKind.i64 b] w4 fun v5 w6 => isK IntKind.i64 v5 fun i7 => stC w6 { block := n2, off := (0 : Nat) : Addr } [Value.int IntKind.i64 i7] fun w8 => cutC (fun u9 => br (decide (c < (0 : Int))) (callV Tryd.prog (58 : Nat) [Value.pointer (some a), Value.bool true] w8 fun v10 w11 => u9 (alist []) w11) (rd (World.cell? w8 { block := n2, off := (0 : Nat) : Addr }) fun v12 => isK IntKind.i64 v12 fun i13 => br (decide (i13 ≤ c)) (rd (World.cell? w8 { block := n2, off := (0 : Nat) : Addr }) fun v14 => isK IntKind.i64 v14 fun i15 => callV Tryd.prog (58 : Nat) [Value.pointer (some a), Value.bool (decide (IntKind.wrap IntKind.i64 ((0 : Int) - c) ≤ i15))] w8 fun v16 w17 => u9 (alist []) w17) (callV Tryd.prog (58 : Nat) [Value.pointer (some a), Value.bool false] w8 fun v18 w19 => u9 (alist []) w19))) fun u20 => ∀ (u21 : Nat → Value) (w22 : World), u20 (alist []) w22 → callV Tryd.prog (85 : Nat) [Value.pointer (some a), Value.int IntKind.i64 b] w22 fun v24 w25 => isK IntKind.i64 v24 fun i26 => stC w25 { block := n2, off := (1 : Nat) : Addr } [Value.int IntKind.i64 i26] fun w27 => cutC (fun u28 => br (decide (c < (0 : Int))) (callV Tryd.prog (58 : Nat) [Value.pointer (some a), Value.bool true] w27 fun v29 w30 => u28 (alist []) w30) (rd (World.cell? w27 { block := n2, off := (1 : Nat) : Addr }) fun v31 => isK IntKind.i64 v31 fun i32 => br (decide (i32 ≤ c)) (rd (World.cell? w27 { block := n2, off := (1 : Nat) : Addr }) fun v33 => isK IntKind.i64 v33 fun i34 => callV Tryd.prog (58 : Nat) [Value.pointer (some a), Value.bool (decide (IntKind.wrap IntKind.i64 ((0 : Int) - c) ≤ i34))] w27 fun v35 w36 => u28 (alist []) w36) (callV Tryd.prog (58 : Nat) [Value.pointer (some a), Value.bool false] w27 fun v37 w38 => u28 (alist []) w38))) fun u39 => ∀ (u40 : Nat → Value) (w41 : World), u39 (alist []) w41 → callV Tryd.prog (85 : Nat) [Value.pointer (some a), Value.int IntKind.i64 b] w41 fun v43 w44 => isK IntKind.i64 v43 fun i45 => stC w44 { block := n2, off := (2 : Nat) : Addr } [Value.int IntKind.i64 i45] fun w46 => cutC (fun u47 => br (decide (c < (0 : Int))) (callV Tryd.prog (58 : Nat) [Value.pointer (some a), Value.bool true] w46 fun v48 w49 => u47 (alist []) w49) (rd (World.cell? w46 { block := n2, off := (2 : Nat) : Addr }) fun v50 => isK IntKind.i64 v50 fun i51 => br (decide (i51 ≤ c)) (rd (World.cell? w46 { block := n2, off := (2 : Nat) : Addr }) fun v52 => isK IntKind.i64 v52 fun i53 => callV Tryd.prog (58 : Nat) [Value.pointer (some a), Value.bool (decide (IntKind.wrap IntKind.i64 ((0 : Int) - c) ≤ i53))] w46 fun v54 w55 => u47 (alist []) w55) (callV Tryd.prog (58 : Nat) [Value.pointer (some a), Value.bool false] w46 fun v56 w57 => u47 (alist []) w57))) fun u58 => ∀ (u59 : Nat → Value) (w60 : World), u58 (alist []) w60 → rd (cellsAt w60 { block := n2, off := (0 : Nat) : Addr } (3 : Nat)) fun l62 => rd (gd (List.length l62 == (3 : Nat))) fun _x => stC w60 { block := n0, off := (0 : Nat) : Addr } l62 fun w63 => rd (cellsAt w63 { block := n0, off := (0 : Nat) : Addr } (3 : Nat)) fun l64 => R (Value.agg (List.toArray l64)) w63) :
  callV Tryd.prog 86 [Value.pointer (some a), Value.int IntKind.i64 b, Value.int IntKind.i64 c] w R :=
  vc_of hm ⟨fun n => match n with | 4 => true | 6 => true | 8 => true | _ => false, fun _ => .done, fun n => match n with | 4 => [] | 6 => [] | 8 => [] | _ => []⟩ Tryd.func86 ent86 (by kernel_rfl) h

theorem vc87 (a : Addr) (w : World) (R : Value → World → Prop)
  (h : callV Tryd.prog (57 : Nat) [Value.pointer (some a), Value.int IntKind.i64 (31 : Int)] w fun v0 w1 => isK IntKind.i64 v0 fun i2 => callV Tryd.prog (58 : Nat) [Value.pointer (some a), Value.bool (decide ((0 : Int) < i2))] w1 fun v3 w4 => R (Value.int IntKind.i64 i2) w4) :
  callV Tryd.prog 87 [Value.pointer (some a)] w R :=
  vc_of hm noHints Tryd.func87 ent87 (by kernel_rfl) h

theorem vc92 (a : ByteArray) (w : World) (R : Value → World → Prop)
  (h : callV Tryd.prog (84 : Nat) [Value.string a] w fun v0 w1 => isK IntKind.u64 v0 fun i2 => br (!decide (a = { data := #[] : ByteArray })) (runs Tryd.prog (Instr.index (9 : Nat) (Value.string a) (Value.int IntKind.i64 (0 : Int))) w1 fun v3 w4 => isK IntKind.u8 v3 fun i5 => br (decide (i5 = (49 : Int))) (br (decide ((↑(ByteArray.size a) : Int) < (64 : Int))) (R (Value.int IntKind.i64 (IntKind.wrap IntKind.i64 (IntKind.wrap IntKind.i64 i2 - IntKind.wrap IntKind.i64 ((1 : Int) * (2 : Int) ^ min (ByteArray.size a % (18446744073709551616 : Nat)) (64 : Nat))))) w4) (R (Value.int IntKind.i64 (IntKind.wrap IntKind.i64 i2)) w4)) (R (Value.int IntKind.i64 (IntKind.wrap IntKind.i64 i2)) w4)) (R (Value.int IntKind.i64 (IntKind.wrap IntKind.i64 i2)) w1)) :
  callV Tryd.prog 92 [Value.string a] w R :=
  vc_of hm noHints Tryd.func92 ent92 (by kernel_rfl) h

end Go.Proofs.YtipikchkbmgloaaDoor
/- the reference's reader.  Conditions: the reader lies as it is said to lie. -/
namespace Go.Proofs.YtipikchkbmgloaaDoor
set_option linter.unusedSimpArgs false
set_option linter.unusedVariables false
open Go Go.RowKit VC
variable {w : World} {R : Nat} {s : RS}

theorem pow_int {a k c : Nat} (h : a ≤ k) (hc : 2 ^ k = c) : (2 : Int) ^ a ≤ (c : Int) := by
  have := Nat.pow_le_pow_right (n := 2) (by omega) h
  rw [hc] at this
  have h2 := Int.ofNat_le.2 this
  rw [Int.natCast_pow] at h2
  exact h2
def RefAt (w : World) (R : Nat) (s : RS) : Prop :=
  ∃ rem : List Int, w.heap[R]? = some (.cells #[.string (txt rem), .int .i64 s.e] 121 (0, 0)) ∧ (s.e = 0 → rem = s.rem) ∧ (∀ b ∈ rem, Bit b) ∧ rem.length ≤ 1000000
theorem RefAt.keep {w' : World} {S : Nat → Prop} (h : RefAt w R s) (f : Fm S w w') (hS : ¬ S R) : RefAt w' R s := by
  obtain ⟨rem, h1, h2⟩ := h
  exact ⟨rem, f.keep h1 hS, h2⟩
theorem slice_txt_h {bs : List Int} {h : Nat} {K : Value → World → Prop} (hh : h ≤ bs.length) (k : K (.string (txt (bs.take h))) w) : runs Tryd.prog (Instr.sliceAt 9 (.string (txt bs)) none (some (.int .i64 (h : Int))) none) w K := by
  have hu := string_of_row (P := Tryd.prog) (t := 9) (by rw [row9])
  refine ⟨_, _, ?_, k⟩
  rw [run_sliceAt_string w 9 _ _ _ _ hu, run_slice_string_h w 9 _ hu _ _ (by omega) (by rw [txt_size]; omega)]
  unfold txt
  rw [Int.toNat_natCast, extract_str, List.drop_zero, List.map_take]
theorem slice_txt_l {bs : List Int} {h : Nat} {K : Value → World → Prop} (hh : h ≤ bs.length) (k : K (.string (txt (bs.drop h))) w) : runs Tryd.prog (Instr.sliceAt 9 (.string (txt bs)) (some (.int .i64 (h : Int))) none none) w K := by
  have hu := string_of_row (P := Tryd.prog) (t := 9) (by rw [row9])
  refine ⟨_, _, ?_, k⟩
  rw [run_sliceAt_string w 9 _ _ _ _ hu, run_slice_string_l w 9 _ hu _ _ (by omega) (by rw [txt_size]; omega)]
  unfold txt
  rw [Int.toNat_natCast, extract_str, strOfNums_size, List.take_length, List.map_drop]
theorem failE_ne {e n : Int} {ok : Bool} (h : e ≠ 0) : failE e ok n = e := by unfold failE; rw [if_neg (fun x => h x.2)]
set_option maxRecDepth 20000 in
theorem take54_c {k : Nat} (hk : k ≤ 64) (h : RefAt w R s) : callV Tryd.prog 83 [.pointer (some ⟨R, 0, none⟩), .int .i64 k] w fun v w' =>
    ∃ x, v = .string (txt x) ∧ x.length ≤ k ∧ (∀ b ∈ x, Bit b) ∧ (s.e = 0 → x = if s.rem.length < k then [] else s.rem.take k) ∧ RefAt w' R (rdW k s).2 ∧ Fm (fun i => i = R) w w' := by
  obtain ⟨rem, h1, h2, h3, h4⟩ := h
  refine vc83 ⟨R, 0, none⟩ k w _ ?_
  simp only [addr_add, Nat.zero_add]
  refine rd_of (v := .int .i64 s.e) (cellOf h1 rfl) ?_
  simp only [vcs, eqV, nilV, Option.map_some, Nat.mul_one, implies_true, true_and, and_true, and_self]
  have nilx : ∀ b ∈ ([] : List Int), Bit b := fun b hb => by cases hb
  refine br_dec (fun he => ?_) (fun he => ?_)
  · have hrem := h2 he
    subst hrem
    refine rd_of (v := .string (txt s.rem)) (cellOf h1 rfl) ?_
    simp only [vcs, eqV, nilV, Option.map_some, Nat.mul_one, implies_true, true_and, and_true, and_self, txt_size]
    refine br_dec (fun hl => ?_) (fun hl => ?_)
    · refine stC_one h1 (by simp) rfl fun w4 hw4 hf4 => ?_
      refine rd_of (v := .int .i64 2) (cellOf hw4 rfl) ?_
      simp only [vcs, eqV, nilV, Option.map_some, Nat.mul_one, implies_true, true_and, and_true, and_self]
      refine br_ndec (fun _ => ?_) (fun h => by omega)
      refine ⟨[], rfl, by simp, nilx, fun _ => by rw [if_pos (by omega)], ?_, hf4⟩
      have hs : (rdW k s).2 = ⟨[], 2⟩ := by
        unfold rdW getR failE
        rw [if_pos (by omega), he]; simp
      rw [hs]
      exact ⟨s.rem, hw4, fun h => by simp at h, h3, h4⟩
    · refine rd_of (v := .int .i64 s.e) (cellOf h1 rfl) ?_
      simp only [vcs, eqV, nilV, Option.map_some, Nat.mul_one, implies_true, true_and, and_true, and_self]
      refine br_ndec (fun h => absurd he h) (fun _ => ?_)
      refine rd_of (v := .string (txt s.rem)) (cellOf h1 rfl) ?_
      simp only [vcs, eqV, nilV, Option.map_some, Nat.mul_one, implies_true, true_and, and_true, and_self]
      refine slice_txt_h (by omega) ?_
      simp only [vcs, eqV, nilV, Option.map_some, Nat.mul_one, implies_true, true_and, and_true, and_self]
      refine rd_of (v := .string (txt s.rem)) (cellOf h1 rfl) ?_
      simp only [vcs, eqV, nilV, Option.map_some, Nat.mul_one, implies_true, true_and, and_true, and_self]
      refine slice_txt_l (by omega) ?_
      simp only [vcs, eqV, nilV, Option.map_some, Nat.mul_one, implies_true, true_and, and_true, and_self]
      refine stC_one h1 (by simp) rfl fun w4 hw4 hf4 => ?_
      refine ⟨s.rem.take k, rfl, by rw [List.length_take]; omega, fun b hb => h3 b (List.mem_of_mem_take hb), fun _ => by rw [if_neg (by omega)], ?_, hf4⟩
      have hs : (rdW k s).2 = ⟨s.rem.drop k, s.e⟩ := by
        unfold rdW getR failE
        rw [if_neg (by omega)]; simp
      rw [hs]
      exact ⟨s.rem.drop k, hw4, fun _ => rfl, fun b hb => h3 b (List.mem_of_mem_drop hb), by rw [List.length_drop]; omega⟩
  · refine rd_of (v := .int .i64 s.e) (cellOf h1 rfl) ?_
    simp only [vcs, eqV, nilV, Option.map_some, Nat.mul_one, implies_true, true_and, and_true, and_self]
    refine br_ndec (fun _ => ?_) (fun h => absurd h he)
    refine ⟨[], rfl, by simp, nilx, fun h => absurd h he, ?_, Fm.refl _ _⟩
    have hs : (rdW k s).2 = ⟨(getR k s.rem).2.1, s.e⟩ := by
      unfold rdW
      simp only [failE_ne he]
    rw [hs]
    exact ⟨rem, h1, fun h => absurd h he, h3, h4⟩
theorem rdW_val {k : Nat} (s : RS) : (rdW k s).1 = val (if s.rem.length < k then [] else s.rem.take k) := by
  unfold rdW getR
  split <;> rfl
theorem number34_c {k : Nat} (hk : k ≤ 62) (h : RefAt w R s) : callV Tryd.prog 57 [.pointer (some ⟨R, 0, none⟩), .int .i64 k] w fun v w' =>
    ∃ x, v = .int .i64 x ∧ (0 ≤ x ∧ x < 2 ^ k) ∧ (s.e = 0 → x = (rdW k s).1) ∧ RefAt w' R (rdW k s).2 ∧ Fm (fun i => i = R) w w' := by
  refine vc57 ⟨R, 0, none⟩ k w _ ?_
  refine (take54_c (by omega) h).mono ?_
  rintro _ w1 ⟨x, rfl, hl, hb, hx, hr, hf⟩
  simp only [vcs, eqV, nilV, Option.map_some, Nat.mul_one, implies_true, true_and, and_true, and_self]
  refine (number55_c hb (by omega)).mono ?_
  rintro _ w4 ⟨rfl, hf4⟩
  simp only [vcs, eqV, nilV, Option.map_some, Nat.mul_one, implies_true, true_and, and_true, and_self]
  have hv := val_bound hb
  have hp : (2 : Int) ^ x.length ≤ 2 ^ k := by
    have := Nat.pow_le_pow_right (n := 2) (by omega) hl
    exact_mod_cast this
  have hp2 : (2 : Int) ^ k ≤ 2 ^ 62 := by
    have := Nat.pow_le_pow_right (n := 2) (by omega) hk
    exact_mod_cast this
  have h62 : (2 : Int) ^ 62 = 4611686018427387904 := rfl
  rw [w64 (by omega)]
  refine ⟨_, rfl, ⟨hv.1, by omega⟩, fun he => ?_, hr.keep hf4 id, hf.trans' hf4 fun i _ h => h.elim⟩
  rw [rdW_val, hx he]
theorem sgn_eq {k : Nat} (hk : k = 8 ∨ k = 18 ∨ k = 32) {v : Int} (h : 0 ≤ v ∧ v < 2 ^ k) : sgn k v = if 2 ^ (k - 1) ≤ v then v - 2 ^ k else v := by
  unfold sgn
  rw [u64w, IntKind.wrap_i64]
  rcases hk with rfl | rfl | rfl <;> simp only [Nat.reduceSub, Int.reducePow] at h ⊢ <;> rw [Int.fdiv_eq_ediv_of_nonneg _ (by omega)] <;> split <;> omega
theorem txt_nil {bs : List Int} (h : txt bs = ({ data := #[] } : ByteArray)) : bs = [] := by
  have := congrArg ByteArray.size h
  rw [txt_size] at this
  exact List.length_eq_zero_iff.1 this
set_option maxRecDepth 20000 in
theorem signed63_c {bs : List Int} (hb : ∀ b ∈ bs, Bit b) (hl : bs.length ≤ 32) : callV Tryd.prog 92 [.string (txt bs)] w fun v w' => v = .int .i64 (if bs ≠ [] ∧ 2 ^ (bs.length - 1) ≤ val bs then val bs - 2 ^ bs.length else val bs) ∧ Fm none' w w' := by
  refine vc92 _ w _ ?_
  refine (number55_c hb (by omega)).mono ?_
  rintro _ w1 ⟨rfl, hf1⟩
  simp only [vcs, eqV, nilV, Option.map_some, Nat.mul_one, implies_true, true_and, and_true, and_self, txt_size]
  have hv := val_bound hb
  have hp : (2 : Int) ^ bs.length ≤ 4294967296 := by
    exact pow_int (c := 4294967296) hl rfl
  have hw : IntKind.i64.wrap (val bs) = val bs := w64 (by omega)
  refine br_ndec (fun hne => ?_) (fun he => ?_)
  · have hne' : bs ≠ [] := by rintro rfl; exact hne rfl
    obtain ⟨b, t, rfl⟩ := List.exists_cons_of_ne_nil hne'
    have hbb := hb b (by simp)
    refine index_str (ys := (b :: t).map (48 + ·)) (j := 0) (by rw [row9]) (txt_r hb) rfl ?_
    simp only [vcs, eqV, nilV, Option.map_some, Nat.mul_one, implies_true, true_and, and_true, and_self]
    have hvt := val_bound (bs := t) fun x hx => hb x (by simp [hx])
    have hvc := val_cons b t
    have hpw : (2 : Int) ^ (b :: t).length = 2 * 2 ^ t.length := by rw [List.length_cons, Int.pow_succ]; omega
    have hl1 : (b :: t).length - 1 = t.length := by simp
    rw [hl1]
    refine br_dec (fun h49 => ?_) (fun h49 => ?_)
    · obtain rfl : b = 1 := by omega
      refine br_dec (fun _ => ?_) (fun h => absurd (by omega) h)
      have hs : min ((1 :: t).length % 18446744073709551616) 64 = (1 :: t).length := by rw [Nat.mod_eq_of_lt (by omega)]; omega
      rw [hs, hw, Int.one_mul, w64 (n := 2 ^ (1 :: t).length) (by omega), w64 (by omega)]
      refine ⟨?_, hf1⟩
      rw [if_pos ⟨by simp, by omega⟩]
    · obtain rfl : b = 0 := by rcases hbb with h | h; exact h; omega
      rw [hw]
      refine ⟨?_, hf1⟩
      rw [if_neg (by rintro ⟨_, h⟩; omega)]
  · have := txt_nil he
    subst this
    exact ⟨rfl, hf1⟩
theorem signed56_c {k : Nat} (hk : k = 8 ∨ k = 18 ∨ k = 32) (h : RefAt w R s) : callV Tryd.prog 85 [.pointer (some ⟨R, 0, none⟩), .int .i64 k] w fun v w' =>
    ∃ x, v = .int .i64 x ∧ I64 x ∧ (s.e = 0 → x = (rdS k s).1) ∧ RefAt w' R (rdS k s).2 ∧ Fm (fun i => i = R) w w' := by
  refine vc85 ⟨R, 0, none⟩ k w _ ?_
  refine (take54_c (by omega) h).mono ?_
  rintro _ w1 ⟨x, rfl, hl, hb, hx, hr, hf⟩
  simp only [vcs, eqV, nilV, Option.map_some, Nat.mul_one, implies_true, true_and, and_true, and_self]
  refine (signed63_c hb (by omega)).mono ?_
  rintro _ w4 ⟨rfl, hf4⟩
  simp only [vcs, eqV, nilV, Option.map_some, Nat.mul_one, implies_true, true_and, and_true, and_self]
  have hv := val_bound hb
  have hp : (2 : Int) ^ x.length ≤ 4294967296 := by
    exact pow_int (c := 4294967296) (show x.length ≤ 32 by omega) rfl
  refine ⟨_, rfl, ?_, fun he => ?_, hr.keep hf4 id, hf.trans' hf4 fun i _ h => h.elim⟩
  · unfold I64; split <;> omega
  · have h1 : (rdS k s).1 = sgn k (rdW k s).1 := rfl
    rw [h1, rdW_val, hx he]
    by_cases hs : s.rem.length < k
    · rw [if_pos hs]
      have : sgn k (val []) = 0 := by rcases hk with rfl | rfl | rfl <;> decide
      rw [this]; rfl
    · rw [if_neg hs]
      have hxl : (s.rem.take k).length = k := by rw [List.length_take]; omega
      have hxb := hb
      rw [hx he, if_neg hs] at hxb
      have hv2 := val_bound hxb
      rw [hxl] at hv2
      rw [sgn_eq hk hv2, hxl]
      have hne : s.rem.take k ≠ [] := by intro h; rw [h] at hxl; simp at hxl; omega
      simp [hne]
theorem must35_c {ok ok' : Bool} (hok : s.e = 0 → ok = ok') (h : RefAt w R s) : callV Tryd.prog 58 [.pointer (some ⟨R, 0, none⟩), .bool ok] w fun v w' => v = .tuple #[] ∧ RefAt w' R (rdF ok' s) ∧ Fm (fun i => i = R) w w' := by
  obtain ⟨rem, h1, h2, h3, h4⟩ := h
  refine vc58 ⟨R, 0, none⟩ ok w _ ?_
  simp only [addr_add, Nat.zero_add]
  have same : (s.e ≠ 0 ∨ ok = true) → RefAt w R (rdF ok' s) := by
    intro hc
    have : rdF ok' s = s := by
      by_cases he : s.e = 0
      · have : ok' = true := by rw [← hok he]; exact hc.resolve_left (fun h => h he)
        rw [this, rdF_true]
      · unfold rdF; rw [failE_ne he]
    rw [this]
    exact ⟨rem, h1, h2, h3, h4⟩
  refine br_ndec' (fun hf => ?_) (fun ht => ⟨trivial, same (.inr ht), Fm.refl _ _⟩)
  refine rd_of (v := .int .i64 s.e) (cellOf h1 rfl) ?_
  simp only [vcs, eqV, nilV, Option.map_some, Nat.mul_one, implies_true, true_and, and_true, and_self]
  refine br_dec (fun he => ?_) (fun he => ⟨same (.inl he), Fm.refl _ _⟩)
  refine stC_one h1 (by simp) rfl fun w2 hw2 hf2 => ⟨?_, hf2⟩
  have : rdF ok' s = ⟨s.rem, 3⟩ := by
    unfold rdF failE
    rw [if_pos ⟨by rw [← hok he]; exact hf, he⟩]
  rw [this]
  exact ⟨rem, hw2, fun h => by simp at h, h3, h4⟩
theorem id58_c (h : RefAt w R s) : callV Tryd.prog 87 [.pointer (some ⟨R, 0, none⟩)] w fun v w' => ∃ x, v = .int .i64 x ∧ I64 x ∧ (s.e = 0 → x = (rdId s).1) ∧ RefAt w' R (rdId s).2 ∧ Fm (fun i => i = R) w w' := by
  refine vc87 ⟨R, 0, none⟩ w _ ?_
  refine (number34_c (k := 31) (by omega) h).mono ?_
  rintro _ w1 ⟨x, rfl, hr, hx, h1, hf1⟩
  simp only [vcs, eqV, nilV, Option.map_some, Nat.mul_one, implies_true, true_and, and_true, and_self]
  have hw : IntKind.i64.wrap x = x := w64 (by omega)
  have heq : s.e = 0 → IntKind.i64.wrap (rdW 31 s).1 = x := fun he => by rw [← hx he, hw]
  refine (must35_c (ok' := decide (0 < IntKind.i64.wrap (rdW 31 s).1)) (fun he => ?_) h1).mono ?_
  · rw [heq ((good_W 31).back s he)]
  rintro _ w4 ⟨rfl, h4, hf4⟩
  exact ⟨x, rfl, by unfold I64; omega, fun he => (heq he).symm, h4, hf1.trans hf4⟩
set_option maxRecDepth 20000 in
theorem vec57_c {k : Nat} {d : Int} (hk : k = 8 ∨ k = 18 ∨ k = 32) (hd : I64 d) (h : RefAt w R s) : callV Tryd.prog 86 [.pointer (some ⟨R, 0, none⟩), .int .i64 k, .int .i64 d] w fun v w' =>
    ∃ x y z, v = .agg #[.int .i64 x, .int .i64 y, .int .i64 z] ∧ (s.e = 0 → x = (stepV k d s).1) ∧ ((stepV k d s).2.e = 0 → y = (stepV k d (stepV k d s).2).1) ∧ ((stepV k d (stepV k d s).2).2.e = 0 → z = (stepV k d (stepV k d (stepV k d s).2).2).1) ∧
      RefAt w' R (stepV k d (stepV k d (stepV k d s).2).2).2 ∧ Fm (fun i => i = R) w w' := by
  obtain ⟨rem0, hR0, -⟩ := id h
  have hRl := lt_of_blk hR0
  refine vc86 ⟨R, 0, none⟩ k d w _ ?_
  refine allocC_of fun w1 hb1 hs1 hf1 => allocC_of fun w3 hb3 hs3 hf3 => ?_
  obtain ⟨A, hA⟩ : ∃ A, A = w.heap.size := ⟨_, rfl⟩
  obtain ⟨X, hX⟩ : ∃ X, X = w1.heap.size := ⟨_, rfl⟩
  have hA3 := hf3.keep hb1 id
  rw [← hA] at hA3 ⊢
  rw [← hX] at hb3 ⊢
  refine stC_all hb3 rfl (by intro v hv; simp at hv; subst hv; rfl) fun w4 hb4 hf4 => ?_
  have hF4 : Fm (fun i => i = R) w w4 := (hf1.trans hf3).none.trans' hf4 (by rintro i hi rfl; omega)
  have h4 : RefAt w4 R s := ((h.keep hf1 id).keep hf3 id).keep hf4 (by omega)
  have hA4 := hf4.keep hA3 (by omega)
  -- one axis
  have must : ∀ {w : World} {s : RS} {i : Nat} {C : Array Value} {x : Int} {K : World → Prop}, RefAt w R (rdS k s).2 → w.heap[X]? = some (.cells C 51 (0, 0)) → C[i]? = some (.int .i64 x) → (s.e = 0 → x = (rdS k s).1) →
      (∀ w', RefAt w' R (stepV k d s).2 → Fm (fun i => i = R) w w' → K w') →
      br (decide (d < 0)) (callV Tryd.prog 58 [.pointer (some ⟨R, 0, none⟩), .bool true] w fun _ w' => K w')
        (rd (w.cell? ⟨X, i, none⟩) fun v => isK .i64 v fun a => br (decide (a ≤ d)) (rd (w.cell? ⟨X, i, none⟩) fun v => isK .i64 v fun b => callV Tryd.prog 58 [.pointer (some ⟨R, 0, none⟩), .bool (decide (IntKind.i64.wrap (0 - d) ≤ b))] w fun _ w' => K w')
          (callV Tryd.prog 58 [.pointer (some ⟨R, 0, none⟩), .bool false] w fun _ w' => K w')) := by
    intro w s i C x K hr hC hi hx kk
    have hst : (stepV k d s).2 = rdF (decide (d < 0) || (decide (IntKind.i64.wrap (0 - d) ≤ (rdS k s).1) && decide ((rdS k s).1 ≤ d))) (rdS k s).2 := rfl
    have go : ∀ ok : Bool, ((rdS k s).2.e = 0 → ok = (decide (d < 0) || (decide (IntKind.i64.wrap (0 - d) ≤ (rdS k s).1) && decide ((rdS k s).1 ≤ d)))) → callV Tryd.prog 58 [.pointer (some ⟨R, 0, none⟩), .bool ok] w fun _ w' => K w' := by
      intro ok hok
      refine (must35_c hok hr).mono ?_
      rintro _ w' ⟨-, h1, h2⟩
      exact kk w' (by rw [hst]; exact h1) h2
    refine br_dec (fun hd => go true fun _ => by rw [decide_eq_true hd]; rfl) (fun hd => ?_)
    refine rd_of (v := .int .i64 x) (cellOf hC hi) ?_
    simp only [vcs, eqV, nilV, Option.map_some, Nat.mul_one, implies_true, true_and, and_true, and_self]
    have hxe : (rdS k s).2.e = 0 → x = (rdS k s).1 := fun he => hx ((good_S k).back s he)
    refine br_dec (fun h1 => ?_) (fun h1 => go false fun he => ?_)
    · refine rd_of (v := .int .i64 x) (cellOf hC hi) ?_
      simp only [vcs, eqV, nilV, Option.map_some, Nat.mul_one, implies_true, true_and, and_true, and_self]
      refine go _ fun he => ?_
      rw [← hxe he, decide_eq_false hd, decide_eq_true h1]; simp
    · rw [← hxe he, decide_eq_false hd, decide_eq_false h1]; simp
  have hRX : R ≠ X := by omega
  refine (signed56_c hk h4).mono ?_
  rintro _ w6 ⟨x, rfl, hix, hx, h6, hf6⟩
  simp only [vcs, eqV, nilV, Option.map_some, Nat.mul_one, implies_true, true_and, and_true, and_self]
  have hb6 := hf6.keep hb4 (by omega)
  refine stC_one hb6 (by simp) rfl fun w8 hb8 hf8 => ?_
  have h8 := h6.keep hf8 hRX
  have hF8 : Fm (fun i => i = R) w w8 := (hF4.trans hf6).trans' hf8 (by rintro i hi rfl; omega)
  have hA8 := hf8.keep (hf6.keep hA4 (by omega)) (by omega)
  refine ⟨fun _ w' => RefAt w' R (stepV k d s).2 ∧ Fm (fun i => i = R) w8 w', must h8 hb8 rfl hx fun w' h1 h2 => ⟨h1, h2⟩, ?_⟩
  rintro - w22 ⟨h22, hf22⟩
  have hb22 := hf22.keep hb8 (by omega)
  have hA22 := hf22.keep hA8 (by omega)
  refine (signed56_c hk h22).mono ?_
  rintro _ w25 ⟨y, rfl, hiy, hy, h25, hf25⟩
  simp only [vcs, eqV, nilV, Option.map_some, Nat.mul_one, implies_true, true_and, and_true, and_self]
  have hb25 := hf25.keep hb22 (by omega)
  refine stC_one hb25 (by simp) rfl fun w27 hb27 hf27 => ?_
  have h27 := h25.keep hf27 hRX
  have hA27 := hf27.keep (hf25.keep hA22 (by omega)) (by omega)
  have hF27 : Fm (fun i => i = R) w w27 := ((hF8.trans hf22).trans hf25).trans' hf27 (by rintro i hi rfl; omega)
  refine ⟨fun _ w' => RefAt w' R (stepV k d (stepV k d s).2).2 ∧ Fm (fun i => i = R) w27 w', must h27 hb27 rfl hy fun w' h1 h2 => ⟨h1, h2⟩, ?_⟩
  rintro - w41 ⟨h41, hf41⟩
  have hb41 := hf41.keep hb27 (by omega)
  have hA41 := hf41.keep hA27 (by omega)
  refine (signed56_c hk h41).mono ?_
  rintro _ w44 ⟨z, rfl, hiz, hz, h44, hf44⟩
  simp only [vcs, eqV, nilV, Option.map_some, Nat.mul_one, implies_true, true_and, and_true, and_self]
  have hb44 := hf44.keep hb41 (by omega)
  refine stC_one hb44 (by simp) rfl fun w46 hb46 hf46 => ?_
  have h46 := h44.keep hf46 hRX
  have hA46 := hf46.keep (hf44.keep hA41 (by omega)) (by omega)
  have hF46 : Fm (fun i => i = R) w w46 := ((hF27.trans hf41).trans hf44).trans' hf46 (by rintro i hi rfl; omega)
  refine ⟨fun _ w' => RefAt w' R (stepV k d (stepV k d (stepV k d s).2).2).2 ∧ Fm (fun i => i = R) w46 w', must h46 hb46 rfl hz fun w' h1 h2 => ⟨h1, h2⟩, ?_⟩
  rintro - w60 ⟨h60, hf60⟩
  have hb60 := hf60.keep hb46 (by omega)
  have hA60 := hf60.keep hA46 (by omega)
  refine rd_of (v := ([.int .i64 x, .int .i64 y, .int .i64 z] : List Value)) (cells_all hb60 rfl) ?_
  refine rd_of (v := ()) rfl ?_
  refine stC_all hA60 rfl (by intro v hv; simp at hv; rcases hv with rfl | rfl | rfl <;> rfl) fun w63 hb63 hf63 => ?_
  refine rd_of (v := ([.int .i64 x, .int .i64 y, .int .i64 z] : List Value)) (cells_all hb63 rfl) ?_
  exact ⟨x, y, z, rfl, hx, hy, hz, h60.keep hf63 (by omega), (hF46.trans hf60).trans' hf63 (by rintro i hi rfl; omega)⟩
end Go.Proofs.YtipikchkbmgloaaDoor
/- The conditions of functions, written out: printed by a small program (VCDev.lean, vcgen.sh).  Conditions: none. -/
namespace Go.Proofs.YtipikchkbmgloaaDoor
set_option linter.unusedSimpArgs false
set_option linter.unusedVariables false
open Go VC
theorem vc59 (a : Addr) (w : World) (R : Value → World → Prop)
  (h : allocC w (Obj.cells #[Value.int IntKind.i64 (0 : Int), Value.int IntKind.u16 (0 : Int), Value.int IntKind.u16 (0 : Int), Value.int IntKind.u8 (0 : Int), Value.int IntKind.i8 (0 : Int), Value.int IntKind.i8 (0 : Int), Value.int IntKind.i64 (0 : Int), Value.int IntKind.u16 (0 : Int), Value.int IntKind.i64 (0 : Int), Value.int IntKind.i64 (0 : Int), Value.int IntKind.i64 (0 : Int), Value.int IntKind.i64 (0 : Int), Value.int IntKind.i64 (0 : Int), Value.int IntKind.i64 (0 : Int), Value.int IntKind.i64 (0 : Int), Value.int IntKind.i64 (0 : Int), Value.int IntKind.i64 (0 : Int), Value.int IntKind.i64 (0 : Int), Value.int IntKind.i64 (0 : Int), Value.int IntKind.i64 (0 : Int), Value.int IntKind.u32 (0 : Int), Value.int IntKind.u32 (0 : Int), Value.slice none (0 : Nat) (0 : Nat)] (53 : Nat)) fun n0 w1 => allocC w1 (Obj.cells #[Value.int IntKind.i64 (0 : Int), Value.int IntKind.u16 (0 : Int), Value.int IntKind.u16 (0 : Int), Value.int IntKind.u8 (0 : Int), Value.int IntKind.i8 (0 : Int), Value.int IntKind.i8 (0 : Int), Value.int IntKind.i64 (0 : Int), Value.int IntKind.u16 (0 : Int), Value.int IntKind.i64 (0 : Int), Value.int IntKind.i64 (0 : Int), Value.int IntKind.i64 (0 : Int), Value.int IntKind.i64 (0 : Int), Value.int IntKind.i64 (0 : Int), Value.int IntKind.i64 (0 : Int), Value.int IntKind.i64 (0 : Int), Value.int IntKind.i64 (0 : Int), Value.int IntKind.i64 (0 : Int), Value.int IntKind.i64 (0 : Int), Value.int IntKind.i64 (0 : Int), Value.int IntKind.i64 (0 : Int), Value.int IntKind.u32 (0 : Int), Value.int IntKind.u32 (0 : Int), Value.slice none (0 : Nat) (0 : Nat)] (53 : Nat)) fun n2 w3 => stC w3 { block := n2, off := (0 : Nat) : Addr } [Value.int IntKind.i64 (0 : Int), Value.int IntKind.u16 (0 : Int), Value.int IntKind.u16 (0 : Int), Value.int IntKind.u8 (0 : Int), Value.int IntKind.i8 (0 : Int), Value.int IntKind.i8 (0 : Int), Value.int IntKind.i64 (0 : Int), Value.int IntKind.u16 (0 : Int), Value.int IntKind.i64 (0 : Int), Value.int IntKind.i64 (0 : Int), Value.int IntKind.i64 (0 : Int), Value.int IntKind.i64 (0 : Int), Value.int IntKind.i64 (0 : Int), Value.int IntKind.i64 (0 : Int), Value.int IntKind.i64 (0 : Int), Value.int IntKind.i64 (0 : Int), Value.int IntKind.i64 (0 : Int), Value.int IntKind.i64 (0 : Int), Value.int IntKind.i64 (0 : Int), Value.int IntKind.i64 (0 : Int), Value.int IntKind.u32 (0 : Int), Value.int IntKind.u32 (0 : Int), Value.slice none (0 : Nat) (0 : Nat)] fun w4 => callV Tryd.prog (57 : Nat) [Value.pointer (some a), Value.int IntKind.i64 (4 : Int)] w4 fun v5 w6 => isK IntKind.i64 v5 fun i7 => stC w6 { block := n2, off := (0 : Nat) : Addr } [Value.int IntKind.i64 i7] fun w8 => cutC (fun u9 => rd (World.cell? w8 { block := n2, off := (0 : Nat) : Addr }) fun v10 => isK IntKind.i64 v10 fun i11 => br (decide ((1 : Int) ≤ i11)) (rd (World.cell? w8 { block := n2, off := (0 : Nat) : Addr }) fun v12 => isK IntKind.i64 v12 fun i13 => callV Tryd.prog (58 : Nat) [Value.pointer (some a), Value.bool (decide (i13 ≤ (9 : Int)))] w8 fun v14 w15 => u9 (alist []) w15) (callV Tryd.prog (58 : Nat) [Value.pointer (some a), Value.bool false] w8 fun v16 w17 => u9 (alist []) w17)) fun u18 => ∀ (u19 : Nat → Value) (w20 : World), u18 (alist []) w20 → cutC (fun u22 => rd (World.cell? w20 { block := n2, off := (0 : Nat) : Addr }) fun v23 => isK IntKind.i64 v23 fun i24 => br (decide (i24 = (2 : Int))) (callV Tryd.prog (57 : Nat) [Value.pointer (some a), Value.int IntKind.i64 (16 : Int)] w20 fun v25 w26 => isK IntKind.i64 v25 fun i27 => stC w26 { block := n2, off := (2 : Nat) : Addr } [Value.int IntKind.u16 (IntKind.wrap IntKind.u16 i27)] fun w28 => callV Tryd.prog (57 : Nat) [Value.pointer (some a), Value.int IntKind.i64 (2 : Int)] w28 fun v29 w30 => isK IntKind.i64 v29 fun i31 => stC w30 { block := n2, off := (3 : Nat) : Addr } [Value.int IntKind.u8 (IntKind.wrap IntKind.u8 i31)] fun w32 => callV Tryd.prog (85 : Nat) [Value.pointer (some a), Value.int IntKind.i64 (8 : Int)] w32 fun v33 w34 => isK IntKind.i64 v33 fun i35 => stC w34 { block := n2, off := (4 : Nat) : Addr } [Value.int IntKind.i8 (IntKind.wrap IntKind.i8 i35)] fun w36 => callV Tryd.prog (85 : Nat) [Value.pointer (some a), Value.int IntKind.i64 (8 : Int)] w36 fun v37 w38 => isK IntKind.i64 v37 fun i39 => stC w38 { block := n2, off := (5 : Nat) : Addr } [Value.int IntKind.i8 (IntKind.wrap IntKind.i8 i39)] fun w40 => callV Tryd.prog (57 : Nat) [Value.pointer (some a), Value.int IntKind.i64 (3 : Int)] w40 fun v41 w42 => isK IntKind.i64 v41 fun i43 => stC w42 { block := n2, off := (6 : Nat) : Addr } [Value.int IntKind.i64 (IntKind.wrap IntKind.i64 (i43 + (1 : Int)))] fun w44 => u22 (alist []) w44) (br (decide (i24 = (3 : Int))) (callV Tryd.prog (57 : Nat) [Value.pointer (some a), Value.int IntKind.i64 (16 : Int)] w20 fun v45 w46 => isK IntKind.i64 v45 fun i47 => stC w46 { block := n2, off := (7 : Nat) : Addr } [Value.int IntKind.u16 (IntKind.wrap IntKind.u16 i47)] fun w48 => callV Tryd.prog (57 : Nat) [Value.pointer (some a), Value.int IntKind.i64 (1 : Int)] w48 fun v49 w50 => isK IntKind.i64 v49 fun i51 => stC w50 { block := n2, off := (9 : Nat) : Addr } [Value.int IntKind.i64 i51] fun w52 => callV Tryd.prog (86 : Nat) [Value.pointer (some a), Value.int IntKind.i64 (18 : Int), Value.int IntKind.i64 (65536 : Int)] w52 fun v53 w54 => rd (gd (List.length (Array.toList (Value.cells v53)) == (3 : Nat))) fun _x => stC w54 { block := n2, off := (10 : Nat) : Addr } (cellsOf true v53) fun w55 => u22 (alist []) w55) (br (decide (i24 = (5 : Int))) (callV Tryd.prog (87 : Nat) [Value.pointer (some a)] w20 fun v56 w57 => isK IntKind.i64 v56 fun i58 => stC w57 { block := n2, off := (8 : Nat) : Addr } [Value.int IntKind.i64 i58] fun w59 => u22 (alist []) w59) (br (decide (i24 = (6 : Int))) (callV Tryd.prog (57 : Nat) [Value.pointer (some a), Value.int IntKind.i64 (16 : Int)] w20 fun v60 w61 => isK IntKind.i64 v60 fun i62 => stC w61 { block := n2, off := (1 : Nat) : Addr } [Value.int IntKind.u16 (IntKind.wrap IntKind.u16 i62)] fun w63 => callV Tryd.prog (86 : Nat) [Value.pointer (some a), Value.int IntKind.i64 (32 : Int), Value.int IntKind.i64 (-1 : Int)] w63 fun v64 w65 => rd (gd (List.length (Array.toList (Value.cells v64)) == (3 : Nat))) fun _x => stC w65 { block := n2, off := (14 : Nat) : Addr } (cellsOf true v64) fun w66 => callV Tryd.prog (86 : Nat) [Value.pointer (some a), Value.int IntKind.i64 (32 : Int), Value.int IntKind.i64 (-1 : Int)] w66 fun v67 w68 => rd (gd (List.length (Array.toList (Value.cells v67)) == (3 : Nat))) fun _x => stC w68 { block := n2, off := (17 : Nat) : Addr } (cellsOf true v67) fun w69 => u22 (alist []) w69) (br (decide (i24 = (7 : Int))) (callV Tryd.prog (57 : Nat) [Value.pointer (some a), Value.int IntKind.i64 (16 : Int)] w20 fun v70 w71 => isK IntKind.i64 v70 fun i72 => stC w71 { block := n2, off := (7 : Nat) : Addr } [Value.int IntKind.u16 (IntKind.wrap IntKind.u16 i72)] fun w73 => callV Tryd.prog (87 : Nat) [Value.pointer (some a)] w73 fun v74 w75 => isK IntKind.i64 v74 fun i76 => stC w75 { block := n2, off := (8 : Nat) : Addr } [Value.int IntKind.i64 i76] fun w77 => u22 (alist []) w77) (br (decide (i24 = (8 : Int))) (callV Tryd.prog (57 : Nat) [Value.pointer (some a), Value.int IntKind.i64 (16 : Int)] w20 fun v78 w79 => isK IntKind.i64 v78 fun i80 => stC w79 { block := n2, off := (7 : Nat) : Addr } [Value.int IntKind.u16 (IntKind.wrap IntKind.u16 i80)] fun w81 => callV Tryd.prog (57 : Nat) [Value.pointer (some a), Value.int IntKind.i64 (4 : Int)] w81 fun v82 w83 => isK IntKind.i64 v82 fun i84 => br (decide ((1 : Int) ≤ i84)) (callV Tryd.prog (58 : Nat) [Value.pointer (some a), Value.bool (decide (i84 ≤ (10 : Int)))] w83 fun v85 w86 => stC w86 { block := n2, off := (13 : Nat) : Addr } [Value.int IntKind.i64 i84] fun w87 => u22 (alist []) w87) (callV Tryd.prog (58 : Nat) [Value.pointer (some a), Value.bool false] w83 fun v88 w89 => stC w89 { block := n2, off := (13 : Nat) : Addr } [Value.int IntKind.i64 i84] fun w90 => u22 (alist []) w90)) (br (decide (i24 = (9 : Int))) (callV Tryd.prog (57 : Nat) [Value.pointer (some a), Value.int IntKind.i64 (32 : Int)] w20 fun v91 w92 => isK IntKind.i64 v91 fun i93 => stC w92 { block := n2, off := (20 : Nat) : Addr } [Value.int IntKind.u32 (IntKind.wrap IntKind.u32 i93)] fun w94 => callV Tryd.prog (57 : Nat) [Value.pointer (some a), Value.int IntKind.i64 (32 : Int)] w94 fun v95 w96 => isK IntKind.i64 v95 fun i97 => stC w96 { block := n2, off := (21 : Nat) : Addr } [Value.int IntKind.u32 (IntKind.wrap IntKind.u32 i97)] fun w98 => callV Tryd.prog (57 : Nat) [Value.pointer (some a), Value.int IntKind.i64 (10 : Int)] w98 fun v99 w100 => isK IntKind.i64 v99 fun i101 => loopC (alist [((6 : Nat), Value.int IntKind.i64 (0 : Int))]) w100 fun u102 u103 => ∀ (u104 : Nat → Value) (w105 : World), u102 (alist [((6 : Nat), u104 (6 : Nat))]) w105 → isK IntKind.i64 (u104 (6 : Nat)) fun i107 => br (decide (i107 < i101)) (rd (World.cell? w105 (Addr.add a (1 : Nat))) fun v108 => isK IntKind.i64 v108 fun i109 => br (decide (i109 = (0 : Int))) (callV Tryd.prog (57 : Nat) [Value.pointer (some a), Value.int IntKind.i64 (8 : Int)] w105 fun v110 w111 => isK IntKind.i64 v110 fun i112 => rd (World.cell? w111 { block := n2, off := (22 : Nat) : Addr }) fun v113 => isSl v113 fun o114 n115 n116 => runs Tryd.prog (Instr.buildSlice (25 : Nat) (1 : Nat) #[((0 : Nat), Value.int IntKind.u8 (IntKind.wrap IntKind.u8 i112))]) w111 fun v117 w118 => isSl v117 fun o119 n120 n121 => runs Tryd.prog (Builtin.append_ #[(25 : Nat), (25 : Nat)] (25 : Nat) #[Value.slice o114 n115 n116, Value.slice o119 n120 n121]) w118 fun v122 w123 => isSl v122 fun o124 n125 n126 => stC w123 { block := n2, off := (22 : Nat) : Addr } [Value.slice o124 n125 n126] fun w127 => isK IntKind.i64 (u104 (6 : Nat)) fun i128 => again u102 u103 (alist [((6 : Nat), Value.int IntKind.i64 (IntKind.wrap IntKind.i64 (i128 + (1 : Int))))]) w127 (alist [((6 : Nat), u104 (6 : Nat))]) w105) (u22 (alist []) w105)) (u22 (alist []) w105)) (u22 (alist []) w20)))))))) fun u129 => ∀ (u130 : Nat → Value) (w131 : World), u129 (alist []) w131 → rd (cellsAt w131 { block := n2, off := (0 : Nat) : Addr } (23 : Nat)) fun l133 => rd (gd (List.length l133 == (23 : Nat))) fun _x => stC w131 { block := n0, off := (0 : Nat) : Addr } l133 fun w134 => rd (cellsAt w134 { block := n0, off := (0 : Nat) : Addr } (23 : Nat)) fun l135 => R (Value.agg (List.toArray l135)) w134) :
  callV Tryd.prog 59 [Value.pointer (some a)] w R :=
  vc_of hm ⟨fun n => match n with | 4 => true | 38 => true | _ => false, fun _ => .done, fun n => match n with | 4 => [] | 38 => [] | 34 => [6] | _ => []⟩ Tryd.func59 ent59 (by kernel_rfl) h

theorem vc31 (a : ByteArray) (w : World) (R : Value → World → Prop)
  (h : callV Tryd.prog (56 : Nat) [Value.string a] w fun v0 w1 => isStr v0 fun x2 => allocC w1 (Obj.cells #[Value.string x2, Value.int IntKind.i64 (0 : Int)] (121 : Nat)) fun n3 w4 => callV Tryd.prog (57 : Nat) [Value.pointer (some { block := n3, off := (0 : Nat) : Addr }), Value.int IntKind.i64 (5 : Int)] w4 fun v5 w6 => isK IntKind.i64 v5 fun i7 => callV Tryd.prog (58 : Nat) [Value.pointer (some { block := n3, off := (0 : Nat) : Addr }), Value.bool (decide (i7 ≤ (16 : Int)))] w6 fun v8 w9 => runs Tryd.prog (Instr.buildSlice (24 : Nat) (0 : Nat) #[]) w9 fun v10 w11 => isSl v10 fun o12 n13 n14 => cutC (fun u15 => loopC (alist [((6 : Nat), Value.slice o12 n13 n14)]) w11 fun u16 u17 => ∀ (u18 : Nat → Value) (w19 : World), u16 (alist [((6 : Nat), u18 (6 : Nat))]) w19 → isSl (u18 (6 : Nat)) fun o21 n22 n23 => br (decide ((↑n22 : Int) < i7)) (rd (World.cell? w19 { block := n3, off := (1 : Nat) : Addr }) fun v24 => isK IntKind.i64 v24 fun i25 => br (decide (i25 = (0 : Int))) (callV Tryd.prog (59 : Nat) [Value.pointer (some { block := n3, off := (0 : Nat) : Addr })] w19 fun v26 w27 => allocC w27 (Obj.cells #[Value.int IntKind.i64 (0 : Int), Value.int IntKind.u16 (0 : Int), Value.int IntKind.u16 (0 : Int), Value.int IntKind.u8 (0 : Int), Value.int IntKind.i8 (0 : Int), Value.int IntKind.i8 (0 : Int), Value.int IntKind.i64 (0 : Int), Value.int IntKind.u16 (0 : Int), Value.int IntKind.i64 (0 : Int), Value.int IntKind.i64 (0 : Int), Value.int IntKind.i64 (0 : Int), Value.int IntKind.i64 (0 : Int), Value.int IntKind.i64 (0 : Int), Value.int IntKind.i64 (0 : Int), Value.int IntKind.i64 (0 : Int), Value.int IntKind.i64 (0 : Int), Value.int IntKind.i64 (0 : Int), Value.int IntKind.i64 (0 : Int), Value.int IntKind.i64 (0 : Int), Value.int IntKind.i64 (0 : Int), Value.int IntKind.u32 (0 : Int), Value.int IntKind.u32 (0 : Int), Value.slice none (0 : Nat) (0 : Nat)] (53 : Nat)) fun n28 w29 => rd (gd (List.length (Array.toList (Value.cells v26)) == (23 : Nat))) fun _x => stC w29 { block := n28, off := (0 : Nat) : Addr } (cellsOf true v26) fun w30 => isSl (u18 (6 : Nat)) fun o31 n32 n33 => rd (cellsAt w30 { block := n28, off := (0 : Nat) : Addr } (23 : Nat)) fun l34 => runs Tryd.prog (Instr.buildSlice (24 : Nat) (1 : Nat) #[((0 : Nat), Value.agg (List.toArray l34))]) w30 fun v35 w36 => isSl v35 fun o37 n38 n39 => runs Tryd.prog (Builtin.append_ #[(24 : Nat), (24 : Nat)] (24 : Nat) #[Value.slice o31 n32 n33, Value.slice o37 n38 n39]) w36 fun v40 w41 => isSl v40 fun o42 n43 n44 => again u16 u17 (alist [((6 : Nat), Value.slice o42 n43 n44)]) w41 (alist [((6 : Nat), u18 (6 : Nat))]) w19) (u15 (alist [((6 : Nat), u18 (6 : Nat))]) w19)) (u15 (alist [((6 : Nat), u18 (6 : Nat))]) w19)) fun u45 => ∀ (u46 : Nat → Value) (w47 : World), u45 (alist [((6 : Nat), u46 (6 : Nat))]) w47 → rd (World.cell? w47 { block := n3, off := (0 : Nat) : Addr }) fun v49 => isStr v49 fun x50 => callV Tryd.prog (60 : Nat) [Value.string x50] w47 fun v51 w52 => isB v51 fun t53 => br t53 (callV Tryd.prog (58 : Nat) [Value.pointer (some { block := n3, off := (0 : Nat) : Addr }), Value.bool (decide ((↑(ByteArray.size a) : Int) ≤ (1024 : Int)))] w52 fun v54 w55 => rd (World.cell? w55 { block := n3, off := (1 : Nat) : Addr }) fun v56 => isK IntKind.i64 v56 fun i57 => br (!decide (i57 = (0 : Int))) (rd (World.cell? (World.drew w55) { block := n3, off := (1 : Nat) : Addr }) fun v58 => isK IntKind.i64 v58 fun i59 => R (Value.tuple #[Value.slice none (0 : Nat) (0 : Nat), Value.int IntKind.i64 i59]) (World.drew w55)) (isSl (u46 (6 : Nat)) fun o60 n61 n62 => R (Value.tuple #[Value.slice o60 n61 n62, Value.int IntKind.i64 (0 : Int)]) w55)) (callV Tryd.prog (58 : Nat) [Value.pointer (some { block := n3, off := (0 : Nat) : Addr }), Value.bool false] w52 fun v63 w64 => rd (World.cell? w64 { block := n3, off := (1 : Nat) : Addr }) fun v65 => isK IntKind.i64 v65 fun i66 => br (!decide (i66 = (0 : Int))) (rd (World.cell? (World.drew w64) { block := n3, off := (1 : Nat) : Addr }) fun v67 => isK IntKind.i64 v67 fun i68 => R (Value.tuple #[Value.slice none (0 : Nat) (0 : Nat), Value.int IntKind.i64 i68]) (World.drew w64)) (isSl (u46 (6 : Nat)) fun o69 n70 n71 => R (Value.tuple #[Value.slice o69 n70 n71, Value.int IntKind.i64 (0 : Int)]) w64))) :
  callV Tryd.prog 31 [Value.string a] w R :=
  vc_of hm ⟨fun n => match n with | 8 => true | _ => false, fun n => match n with | 11 => .take 0 (.take 1 (.take 2 (.take 3 (.take 4 (.take 5 (.done)))))) | _ => .done, fun n => match n with | 8 => [6] | 5 => [6] | _ => []⟩ Tryd.func31 ent31 (by kernel_rfl) h

end Go.Proofs.YtipikchkbmgloaaDoor
/- the reference: a message out of bits.  Conditions: the reader lies as it is said to lie. -/
namespace Go.Proofs.YtipikchkbmgloaaDoor
set_option linter.unusedSimpArgs false
set_option linter.unusedVariables false
open Go Go.RowKit VC
variable {w : World} {R : Nat} {s : RS}
/-- The next message, as the program has it. -/
def prM (s : RS) : Msg × RS := ((rdFields (IntKind.i64.wrap (rdW 4 s).1) (rdW 4 s).2).1, rdF (known (blank (IntKind.i64.wrap (rdW 4 s).1))) (rdFields (IntKind.i64.wrap (rdW 4 s).1) (rdW 4 s).2).2)
theorem rdB_stop {s : RS} {n : Nat} {acc : List Int} (h : s.e ≠ 0) : rdB n s acc = (acc, s) := by
  cases n with
  | zero => rfl
  | succ n => rw [rdB, if_neg h]
theorem rdB_e0 (n : Nat) (s : RS) (acc : List Int) (h : (rdB n s acc).2.e = 0) : s.e = 0 := by
  by_cases e : s.e = 0
  · exact e
  · rw [rdB_stop e] at h; exact h
/-- The message lies in block O, its bytes are its own. -/
def MsO (w0 w : World) (R O : Nat) (k : Int) (s1 : RS) (w' : World) : Prop :=
  ∃ m q c, w'.heap[O]? = some (.cells (msgC m q c).toArray 53 (0, 0)) ∧ RefAt w' R (rdF (known (blank k)) (rdFields k s1).2) ∧ ((rdF (known (blank k)) (rdFields k s1).2).e = 0 → m = (rdFields k s1).1) ∧
    w'.ownsRow w0.heap.size 5 1 (.slice q m.bytes.length c) m.bytes.length (m.bytes.map (Value.int .u8)) ∧ (∀ y ∈ m.bytes, 0 ≤ y ∧ y < 256) ∧ Fm (fun i => i = R ∨ w0.heap.size < i) w w'
theorem own_nil (w : World) (base : Nat) : w.ownsRow base 5 1 (.slice none ([] : List Int).length 0) ([] : List Int).length (([] : List Int).map (Value.int .u8)) := ⟨rfl, .inl ⟨rfl, rfl⟩⟩
set_option maxRecDepth 20000 in
set_option maxHeartbeats 8000000 in
theorem message36_c (h : RefAt w R s) (he0 : s.e = 0) : callV Tryd.prog 59 [.pointer (some ⟨R, 0, none⟩)] w fun v w' =>
    ∃ m q c, v = .agg (msgC m q c).toArray ∧ RefAt w' R (prM s).2 ∧ ((prM s).2.e = 0 → m = (prM s).1) ∧ w'.ownsRow w.heap.size 5 1 (.slice q m.bytes.length c) m.bytes.length (m.bytes.map (Value.int .u8)) ∧ (∀ y ∈ m.bytes, 0 ≤ y ∧ y < 256) ∧ Fm (fun i => i = R) w w' := by
  obtain ⟨rem0, hR0, -⟩ := id h
  have hRl := lt_of_blk hR0
  refine vc59 ⟨R, 0, none⟩ w _ ?_
  refine allocC_of fun w1 hb1 hs1 hf1 => allocC_of fun w3 hb3 hs3 hf3 => ?_
  obtain ⟨A, hA⟩ : ∃ A, A = w.heap.size := ⟨_, rfl⟩
  obtain ⟨O, hO⟩ : ∃ O, O = w1.heap.size := ⟨_, rfl⟩
  have hA3 := hf3.keep hb1 id
  change w3.heap[w.heap.size]? = some (.cells (msgC (blank 0) none 0).toArray 53 (0, 0)) at hA3
  rw [← hA] at hA3 ⊢
  rw [← hO] at hb3 ⊢
  refine stC_all hb3 rfl (by intro v hv; exact msgC_one (m := blank 0) (q := none) (cq := 0) v hv) fun w4 hb4 hf4 => ?_
  change w4.heap[O]? = some (.cells (msgC (blank 0) none 0).toArray 53 (0, 0)) at hb4
  have h4 : RefAt w4 R s := ((h.keep hf1 id).keep hf3 id).keep hf4 (by omega)
  have hA4 := hf4.keep hA3 (by omega)
  have hF4 : Fm (fun i => i = R) w w4 := (hf1.trans hf3).none.trans' hf4 (by rintro i hi rfl; omega)
  have hRO : R ≠ O := by omega
  have hs4 := hf4.size
  refine (number34_c (k := 4) (by omega) h4).mono ?_
  rintro _ w6 ⟨k, rfl, hkr, hkx, h6, hf6⟩
  simp only [vcs, eqV, nilV, Option.map_some, Nat.mul_one, implies_true, true_and, and_true, and_self]
  obtain ⟨s1, hs1'⟩ : ∃ s1, s1 = (rdW 4 s).2 := ⟨_, rfl⟩
  have hk := hkx he0
  have hwk : IntKind.i64.wrap k = k := w64 (by omega)
  have hpr : prM s = ((rdFields k s1).1, rdF (known (blank k)) (rdFields k s1).2) := by unfold prM; rw [← hk, hwk, hs1']
  rw [← hs1'] at h6
  rw [hpr]
  have hb6 := hf6.keep hb4 (by omega)
  refine stC_one hb6 (by simp [msgC]) rfl fun w8 hb8 hf8 => ?_
  change w8.heap[O]? = some (.cells (msgC (blank k) none 0).toArray 53 (0, 0)) at hb8
  have h8 := h6.keep hf8 hRO
  have hA8 := hf8.keep (hf6.keep hA4 (by omega)) (by omega)
  have hF8 : Fm (fun i => i = R) w w8 := (hF4.trans hf6).trans' hf8 (by rintro i hi rfl; omega)
  refine ⟨fun _ w' => RefAt w' R (rdF (known (blank k)) s1) ∧ Fm (fun i => i = R) w8 w', ?_, ?_⟩
  · have go : ∀ ok : Bool, ok = known (blank k) → callV Tryd.prog 58 [.pointer (some ⟨R, 0, none⟩), .bool ok] w8 fun _ w' => RefAt w' R (rdF (known (blank k)) s1) ∧ Fm (fun i => i = R) w8 w' := by
      intro ok hok
      refine (must35_c (fun _ => hok) h8).mono ?_
      rintro _ w' ⟨-, h1, h2⟩
      exact ⟨h1, h2⟩
    have hkn : known (blank k) = (decide (1 ≤ k) && decide (k ≤ 9)) := rfl
    refine rd_of (v := .int .i64 k) (cellOf hb8 rfl) ?_
    simp only [vcs, eqV, nilV, Option.map_some, Nat.mul_one, implies_true, true_and, and_true, and_self]
    refine br_dec (fun h1 => ?_) (fun h1 => go false (by rw [hkn, decide_eq_false h1]; rfl))
    refine rd_of (v := .int .i64 k) (cellOf hb8 rfl) ?_
    simp only [vcs, eqV, nilV, Option.map_some, Nat.mul_one, implies_true, true_and, and_true, and_self]
    exact go _ (by rw [hkn, decide_eq_true h1]; rfl)
  rintro - w20 ⟨h20, hf20⟩
  have hb20 := hf20.keep hb8 (by omega)
  have hA20 := hf20.keep hA8 (by omega)
  have hs20 := hf20.size
  have hF20 := hF8.trans hf20
  refine ⟨fun _ w' => MsO w w20 R O k s1 w', ?_, ?_⟩
  · refine rd_of (v := .int .i64 k) (cellOf hb20 rfl) ?_
    simp only [vcs, eqV, nilV, Option.map_some, Nat.mul_one, implies_true, true_and, and_true, and_self]
    -- of a kind that is known
    have kn : 1 ≤ k → k ≤ 9 → rdF (known (blank k)) s1 = s1 ∧ ∀ x : RS, rdF (known (blank k)) x = x := fun a b => by
      have : known (blank k) = true := known_iff.2 ⟨a, b⟩
      rw [this]; exact ⟨rdF_true _, rdF_true⟩
    have plain : ∀ {w' : World} {m : Msg} {r : Msg × RS}, 1 ≤ k → k ≤ 9 → rdFields k s1 = r → m.bytes = [] → w'.heap[O]? = some (.cells (msgC m none 0).toArray 53 (0, 0)) → RefAt w' R r.2 → (r.2.e = 0 → m = r.1) → Fm (fun i => i = R ∨ w.heap.size < i) w20 w' → MsO w w20 R O k s1 w' := by
      rintro w' m r a b rfl hb ho hr hm hf
      refine ⟨m, none, 0, ho, ?_, ?_, by rw [hb]; exact own_nil _ _, by rw [hb]; simp, hf⟩
      · rw [(kn a b).2]; exact hr
      · rw [(kn a b).2]; exact hm
    have nO : ∀ {w1 w' : World}, Fm (fun i => i = R) w1 w' → Fm (fun i => i = R ∨ w.heap.size < i) w1 w' := fun f => f.mono fun i _ e => .inl e
    have nX : ∀ {w1 w' : World}, Fm (fun i => i = O) w1 w' → Fm (fun i => i = R ∨ w.heap.size < i) w1 w' := fun f => f.mono fun i _ e => .inr (by omega)
    have kO : ∀ {w w' : World} {o : Obj}, Fm (fun i => i = R) w w' → w.heap[O]? = some o → w'.heap[O]? = some o := fun f h => f.keep h (by omega)
    have kR : ∀ {w w' : World} {s : RS}, Fm (fun i => i = O) w w' → RefAt w R s → RefAt w' R s := fun f h => h.keep f hRO
    refine br_dec (fun k2 => ?_) (fun k2 => ?_)
    · subst k2
      have h20' := h20
      rw [(kn (by omega) (by omega)).1] at h20'
      obtain ⟨⟨a, t1⟩, ha⟩ : ∃ r, rdW 16 s1 = r := ⟨_, rfl⟩
      obtain ⟨⟨b, t2⟩, hb⟩ : ∃ r, rdW 2 t1 = r := ⟨_, rfl⟩
      obtain ⟨⟨x, t3⟩, hx⟩ : ∃ r, rdS 8 t2 = r := ⟨_, rfl⟩
      obtain ⟨⟨y, t4⟩, hy⟩ : ∃ r, rdS 8 t3 = r := ⟨_, rfl⟩
      obtain ⟨⟨t, t5⟩, ht⟩ : ∃ r, rdW 3 t4 = r := ⟨_, rfl⟩
      have hr : rdFields 2 s1 = ({ blank 2 with cq := IntKind.u16.wrap a, cb := IntKind.u8.wrap b, cdx := IntKind.i8.wrap x, cdy := IntKind.i8.wrap y, ct := IntKind.i64.wrap (IntKind.i64.wrap t + 1) }, t5) := by
        show rdCmd s1 = _
        unfold rdCmd
        simp only [ha, hb, hx, hy, ht]
      have b1 := fun e => (good_W 16).back s1 (by rw [ha]; exact e)
      have b2 := fun e => (good_W 2).back t1 (by rw [hb]; exact e)
      have b3 := fun e => (good_S 8).back t2 (by rw [hx]; exact e)
      have b4 := fun e => (good_S 8).back t3 (by rw [hy]; exact e)
      have b5 := fun e => (good_W 3).back t4 (by rw [ht]; exact e)
      refine (number34_c (k := 16) (by omega) h20').mono ?_
      rintro _ w26 ⟨a', rfl, _, va, r1, f1⟩
      rw [ha] at va r1
      simp only [vcs, eqV, nilV, Option.map_some, Nat.mul_one, implies_true, true_and, and_true, and_self]
      refine stC_one (kO f1 hb20) (by simp [msgC]) rfl fun w28 o2 g2 => ?_
      refine (number34_c (k := 2) (by omega) (kR g2 r1)).mono ?_
      rintro _ w30 ⟨b', rfl, _, vb, r2, f2⟩
      rw [hb] at vb r2
      simp only [vcs, eqV, nilV, Option.map_some, Nat.mul_one, implies_true, true_and, and_true, and_self]
      refine stC_one (kO f2 o2) (by simp [msgC]) rfl fun w32 o3 g3 => ?_
      refine (signed56_c (k := 8) (.inl rfl) (kR g3 r2)).mono ?_
      rintro _ w34 ⟨x', rfl, _, vx, r3, f3⟩
      rw [hx] at vx r3
      simp only [vcs, eqV, nilV, Option.map_some, Nat.mul_one, implies_true, true_and, and_true, and_self]
      refine stC_one (kO f3 o3) (by simp [msgC]) rfl fun w36 o4 g4 => ?_
      refine (signed56_c (k := 8) (.inl rfl) (kR g4 r3)).mono ?_
      rintro _ w38 ⟨y', rfl, _, vy, r4, f4⟩
      rw [hy] at vy r4
      simp only [vcs, eqV, nilV, Option.map_some, Nat.mul_one, implies_true, true_and, and_true, and_self]
      refine stC_one (kO f4 o4) (by simp [msgC]) rfl fun w40 o5 g5 => ?_
      refine (number34_c (k := 3) (by omega) (kR g5 r4)).mono ?_
      rintro _ w42 ⟨t', rfl, ht', vt, r5, f5⟩
      rw [ht] at vt r5
      simp only [vcs, eqV, nilV, Option.map_some, Nat.mul_one, implies_true, true_and, and_true, and_self]
      refine stC_one (kO f5 o5) (by simp [msgC]) rfl fun w44 o6 g6 => ?_
      refine plain (m := { blank 2 with cq := IntKind.u16.wrap a', cb := IntKind.u8.wrap b', cdx := IntKind.i8.wrap x', cdy := IntKind.i8.wrap y', ct := IntKind.i64.wrap (t' + 1) }) (by omega) (by omega) hr rfl o6 (kR g6 r5) (fun e => ?_) (((((((((nO f1).trans (nX g2)).trans (nO f2)).trans (nX g3)).trans (nO f3)).trans (nX g4)).trans (nO f4)).trans (nX g5)).trans (nO f5) |>.trans (nX g6))
      have e4 := b5 e
      have e3 := b4 e4
      have e2 := b3 e3
      have e1 := b2 e2
      have ht2 : IntKind.i64.wrap t' = t' := w64 (by omega)
      dsimp only at va vb vx vy vt
      have vt' := vt e4
      subst vt'
      rw [va (b1 e1), vb e1, vx e2, vy e3, ht2]
    refine br_dec (fun k3 => ?_) (fun k3 => ?_)
    · subst k3
      have h20' := h20
      rw [(kn (by omega) (by omega)).1] at h20'
      obtain ⟨⟨a, t1⟩, ha⟩ : ∃ r, rdW 16 s1 = r := ⟨_, rfl⟩
      obtain ⟨⟨b, t2⟩, hb⟩ : ∃ r, rdW 1 t1 = r := ⟨_, rfl⟩
      obtain ⟨⟨x, t3⟩, hx⟩ : ∃ r, stepV 18 65536 t2 = r := ⟨_, rfl⟩
      obtain ⟨⟨y, t4⟩, hy⟩ : ∃ r, stepV 18 65536 t3 = r := ⟨_, rfl⟩
      obtain ⟨⟨z, t5⟩, hz⟩ : ∃ r, stepV 18 65536 t4 = r := ⟨_, rfl⟩
      have hr : rdFields 3 s1 = ({ blank 3 with prov := IntKind.u16.wrap a, shot := IntKind.i64.wrap b, d0 := x, d1 := y, d2 := z }, t5) := by
        show rdFire s1 = _
        unfold rdFire
        simp only [ha, hb, hx, hy, hz]
      have b1 := fun e => (good_W 16).back s1 (by rw [ha]; exact e)
      have b2 := fun e => (good_W 1).back t1 (by rw [hb]; exact e)
      have b3 := fun e => (good_V 18 65536).back t2 (by rw [hx]; exact e)
      have b4 := fun e => (good_V 18 65536).back t3 (by rw [hy]; exact e)
      have b5 := fun e => (good_V 18 65536).back t4 (by rw [hz]; exact e)
      refine (number34_c (k := 16) (by omega) h20').mono ?_
      rintro _ w26 ⟨a', rfl, _, va, r1, f1⟩
      rw [ha] at va r1
      simp only [vcs, eqV, nilV, Option.map_some, Nat.mul_one, implies_true, true_and, and_true, and_self]
      refine stC_one (kO f1 hb20) (by simp [msgC]) rfl fun w28 o2 g2 => ?_
      refine (number34_c (k := 1) (by omega) (kR g2 r1)).mono ?_
      rintro _ w30 ⟨b', rfl, hb', vb, r2, f2⟩
      rw [hb] at vb r2
      simp only [vcs, eqV, nilV, Option.map_some, Nat.mul_one, implies_true, true_and, and_true, and_self]
      refine stC_one (kO f2 o2) (by simp [msgC]) rfl fun w32 o3 g3 => ?_
      refine (vec57_c (k := 18) (d := 65536) (by omega) (by unfold I64; omega) (kR g3 r2)).mono ?_
      rintro _ w34 ⟨x', y', z', rfl, vx, vy, vz, r3, f3⟩
      rw [hx] at vx vy vz r3
      dsimp only at vx vy vz r3
      rw [hy] at vy vz r3
      dsimp only at vy vz r3
      rw [hz] at vz r3
      dsimp only at vz r3
      refine rd_of (v := ()) rfl ?_
      refine stC_at (vs := [.int .i64 x', .int .i64 y', .int .i64 z']) (kO f3 o3) (by simp [msgC]) (by intro v hv; simp at hv; rcases hv with rfl | rfl | rfl <;> rfl) fun w36 o4 g4 => ?_
      have hb2 : IntKind.i64.wrap b' = b' := w64 (by omega)
      refine plain (m := { blank 3 with prov := IntKind.u16.wrap a', shot := b', d0 := x', d1 := y', d2 := z' }) (by omega) (by omega) hr rfl o4 (kR g4 r3) (fun e => ?_) ((((((nO f1).trans (nX g2)).trans (nO f2)).trans (nX g3)).trans (nO f3)).trans (nX g4))
      have e4 := b5 e
      have e3 := b4 e4
      have e2 := b3 e3
      have e1 := b2 e2
      dsimp only at va vb
      have vb' := vb e1
      subst vb'
      rw [va (b1 e1), hb2, vx e2, vy e3, vz e4]
    refine br_dec (fun k5 => ?_) (fun k5 => ?_)
    · subst k5
      have h20' := h20
      rw [(kn (by omega) (by omega)).1] at h20'
      have hr : rdFields 5 s1 = ({ blank 5 with id := (rdId s1).1 }, (rdId s1).2) := rfl
      refine (id58_c h20').mono ?_
      rintro _ w26 ⟨a', rfl, _, va, r1, f1⟩
      simp only [vcs, eqV, nilV, Option.map_some, Nat.mul_one, implies_true, true_and, and_true, and_self]
      refine stC_one (kO f1 hb20) (by simp [msgC]) rfl fun w28 o2 g2 => ?_
      refine plain (m := { blank 5 with id := a' }) (by omega) (by omega) hr rfl o2 (kR g2 r1) (fun e => ?_) ((nO f1).trans (nX g2))
      rw [va (good_Id.back _ e)]
    refine br_dec (fun k6 => ?_) (fun k6 => ?_)
    · subst k6
      have h20' := h20
      rw [(kn (by omega) (by omega)).1] at h20'
      obtain ⟨⟨a, t1⟩, ha⟩ : ∃ r, rdW 16 s1 = r := ⟨_, rfl⟩
      obtain ⟨⟨x, t3⟩, hx⟩ : ∃ r, stepV 32 (-1) t1 = r := ⟨_, rfl⟩
      obtain ⟨⟨y, t4⟩, hy⟩ : ∃ r, stepV 32 (-1) t3 = r := ⟨_, rfl⟩
      obtain ⟨⟨z, t5⟩, hz⟩ : ∃ r, stepV 32 (-1) t4 = r := ⟨_, rfl⟩
      obtain ⟨⟨x2, t6⟩, hx2⟩ : ∃ r, stepV 32 (-1) t5 = r := ⟨_, rfl⟩
      obtain ⟨⟨y2, t7⟩, hy2⟩ : ∃ r, stepV 32 (-1) t6 = r := ⟨_, rfl⟩
      obtain ⟨⟨z2, t8⟩, hz2⟩ : ∃ r, stepV 32 (-1) t7 = r := ⟨_, rfl⟩
      have hr : rdFields 6 s1 = ({ blank 6 with seq := IntKind.u16.wrap a, p0 := x, p1 := y, p2 := z, v0 := x2, v1 := y2, v2 := z2 }, t8) := by
        show rdMoved s1 = _
        unfold rdMoved
        simp only [ha, hx, hy, hz, hx2, hy2, hz2]
      have gv := good_V 32 (-1)
      have b1 := fun e => (good_W 16).back s1 (by rw [ha]; exact e)
      have b3 := fun e => gv.back t1 (by rw [hx]; exact e)
      have b4 := fun e => gv.back t3 (by rw [hy]; exact e)
      have b5 := fun e => gv.back t4 (by rw [hz]; exact e)
      have b6 := fun e => gv.back t5 (by rw [hx2]; exact e)
      have b7 := fun e => gv.back t6 (by rw [hy2]; exact e)
      have b8 := fun e => gv.back t7 (by rw [hz2]; exact e)
      refine (number34_c (k := 16) (by omega) h20').mono ?_
      rintro _ w26 ⟨a', rfl, _, va, r1, f1⟩
      rw [ha] at va r1
      simp only [vcs, eqV, nilV, Option.map_some, Nat.mul_one, implies_true, true_and, and_true, and_self]
      refine stC_one (kO f1 hb20) (by simp [msgC]) rfl fun w28 o2 g2 => ?_
      refine (vec57_c (k := 32) (d := -1) (by omega) (by unfold I64; omega) (kR g2 r1)).mono ?_
      rintro _ w34 ⟨x', y', z', rfl, vx, vy, vz, r3, f3⟩
      rw [hx] at vx vy vz r3
      dsimp only at vx vy vz r3
      rw [hy] at vy vz r3
      dsimp only at vy vz r3
      rw [hz] at vz r3
      dsimp only at vz r3
      refine rd_of (v := ()) rfl ?_
      refine stC_at (vs := [.int .i64 x', .int .i64 y', .int .i64 z']) (kO f3 o2) (by simp [msgC]) (by intro v hv; simp at hv; rcases hv with rfl | rfl | rfl <;> rfl) fun w36 o4 g4 => ?_
      refine (vec57_c (k := 32) (d := -1) (by omega) (by unfold I64; omega) (kR g4 r3)).mono ?_
      rintro _ w38 ⟨x'', y'', z'', rfl, ux, uy, uz, r4, f4⟩
      rw [hx2] at ux uy uz r4
      dsimp only at ux uy uz r4
      rw [hy2] at uy uz r4
      dsimp only at uy uz r4
      rw [hz2] at uz r4
      dsimp only at uz r4
      refine rd_of (v := ()) rfl ?_
      refine stC_at (vs := [.int .i64 x'', .int .i64 y'', .int .i64 z'']) (kO f4 o4) (by simp [msgC]) (by intro v hv; simp at hv; rcases hv with rfl | rfl | rfl <;> rfl) fun w40 o5 g5 => ?_
      refine plain (m := { blank 6 with seq := IntKind.u16.wrap a', p0 := x', p1 := y', p2 := z', v0 := x'', v1 := y'', v2 := z'' }) (by omega) (by omega) hr rfl o5 (kR g5 r4) (fun e => ?_) ((((((nO f1).trans (nX g2)).trans (nO f3)).trans (nX g4)).trans (nO f4)).trans (nX g5))
      have e7 := b8 e
      have e6 := b7 e7
      have e5 := b6 e6
      have e4 := b5 e5
      have e3 := b4 e4
      have e1 := b3 e3
      rw [va (b1 e1), vx e1, vy e3, vz e4, ux e5, uy e6, uz e7]
    refine br_dec (fun k7 => ?_) (fun k7 => ?_)
    · subst k7
      have h20' := h20
      rw [(kn (by omega) (by omega)).1] at h20'
      obtain ⟨⟨a, t1⟩, ha⟩ : ∃ r, rdW 16 s1 = r := ⟨_, rfl⟩
      have hr : rdFields 7 s1 = ({ blank 7 with prov := IntKind.u16.wrap a, id := (rdId t1).1 }, (rdId t1).2) := by
        show rdBound s1 = _
        unfold rdBound
        simp only [ha]
      have b1 := fun e => (good_W 16).back s1 (by rw [ha]; exact e)
      refine (number34_c (k := 16) (by omega) h20').mono ?_
      rintro _ w26 ⟨a', rfl, _, va, r1, f1⟩
      rw [ha] at va r1
      simp only [vcs, eqV, nilV, Option.map_some, Nat.mul_one, implies_true, true_and, and_true, and_self]
      refine stC_one (kO f1 hb20) (by simp [msgC]) rfl fun w28 o2 g2 => ?_
      refine (id58_c (kR g2 r1)).mono ?_
      rintro _ w30 ⟨b', rfl, _, vb, r2, f2⟩
      simp only [vcs, eqV, nilV, Option.map_some, Nat.mul_one, implies_true, true_and, and_true, and_self]
      refine stC_one (kO f2 o2) (by simp [msgC]) rfl fun w32 o3 g3 => ?_
      refine plain (m := { blank 7 with prov := IntKind.u16.wrap a', id := b' }) (by omega) (by omega) hr rfl o3 (kR g3 r2) (fun e => ?_) ((((nO f1).trans (nX g2)).trans (nO f2)).trans (nX g3))
      have e1 := good_Id.back _ e
      rw [va (b1 e1), vb e1]
    refine br_dec (fun k8 => ?_) (fun k8 => ?_)
    · subst k8
      have h20' := h20
      rw [(kn (by omega) (by omega)).1] at h20'
      obtain ⟨⟨a, t1⟩, ha⟩ : ∃ r, rdW 16 s1 = r := ⟨_, rfl⟩
      obtain ⟨⟨b, t2⟩, hb⟩ : ∃ r, rdW 4 t1 = r := ⟨_, rfl⟩
      have hr : rdFields 8 s1 = ({ blank 8 with prov := IntKind.u16.wrap a, why := IntKind.i64.wrap b }, rdF (decide (1 ≤ IntKind.i64.wrap b) && decide (IntKind.i64.wrap b ≤ 10)) t2) := by
        show rdDenied s1 = _
        unfold rdDenied
        simp only [ha, hb]
      have b1 := fun e => (good_W 16).back s1 (by rw [ha]; exact e)
      have b2 := fun e => (good_W 4).back t1 (by rw [hb]; exact e)
      refine (number34_c (k := 16) (by omega) h20').mono ?_
      rintro _ w26 ⟨a', rfl, _, va, r1, f1⟩
      rw [ha] at va r1
      simp only [vcs, eqV, nilV, Option.map_some, Nat.mul_one, implies_true, true_and, and_true, and_self]
      refine stC_one (kO f1 hb20) (by simp [msgC]) rfl fun w28 o2 g2 => ?_
      refine (number34_c (k := 4) (by omega) (kR g2 r1)).mono ?_
      rintro _ w30 ⟨b', rfl, hb', vb, r2, f2⟩
      rw [hb] at vb r2
      simp only [vcs, eqV, nilV, Option.map_some, Nat.mul_one, implies_true, true_and, and_true, and_self]
      have hbw : IntKind.i64.wrap b' = b' := w64 (by omega)
      have go : ∀ ok : Bool, ok = (decide (1 ≤ b') && decide (b' ≤ 10)) → callV Tryd.prog 58 [.pointer (some ⟨R, 0, none⟩), .bool ok] w30 fun _ w96 => stC w96 ⟨O, 13, none⟩ [.int .i64 b'] fun w97 => MsO w w20 R O 8 s1 w97 := by
        intro ok hok
        refine (must35_c (ok' := decide (1 ≤ IntKind.i64.wrap b) && decide (IntKind.i64.wrap b ≤ 10)) (fun e => ?_) r2).mono ?_
        · have vb' : b' = b := vb (b2 e)
          subst vb'
          rw [hok, hbw]
        rintro _ w96 ⟨-, r3, f3⟩
        refine stC_one (kO f3 (kO f2 o2)) (by simp [msgC]) rfl fun w97 o4 g4 => ?_
        refine plain (m := { blank 8 with prov := IntKind.u16.wrap a', why := b' }) (by omega) (by omega) hr rfl o4 (kR g4 r3) (fun e => ?_) (((((nO f1).trans (nX g2)).trans (nO f2)).trans (nO f3)).trans (nX g4))
        have e2 := (rdF_inv e).2.1
        have e1 := b2 e2
        have vb' : b' = b := vb e1
        subst vb'
        rw [va (b1 e1), hbw]
      refine br_dec (fun h1 => go _ (by rw [decide_eq_true h1]; rfl)) (fun h1 => go false (by rw [decide_eq_false h1]; rfl))
    refine br_dec (fun k9 => ?_) (fun k9 => ?_)
    · subst k9
      have h20' := h20
      rw [(kn (by omega) (by omega)).1] at h20'
      obtain ⟨⟨a, t1⟩, ha⟩ : ∃ r, rdW 32 s1 = r := ⟨_, rfl⟩
      obtain ⟨⟨b, t2⟩, hb⟩ : ∃ r, rdW 32 t1 = r := ⟨_, rfl⟩
      obtain ⟨⟨nn, t3⟩, hn⟩ : ∃ r, rdW 10 t2 = r := ⟨_, rfl⟩
      have hr : rdFields 9 s1 = ({ blank 9 with tick := IntKind.u32.wrap a, bse := IntKind.u32.wrap b, bytes := (rdB nn.toNat t3 []).1 }, (rdB nn.toNat t3 []).2) := by
        show rdSnap s1 = _
        unfold rdSnap
        simp only [ha, hb, hn]
      have b1 := fun e => (good_W 32).back s1 (by rw [ha]; exact e)
      have b2 := fun e => (good_W 32).back t1 (by rw [hb]; exact e)
      have b3 := fun e => (good_W 10).back t2 (by rw [hn]; exact e)
      refine (number34_c (k := 32) (by omega) h20').mono ?_
      rintro _ w26 ⟨a', rfl, _, va, r1, f1⟩
      rw [ha] at va r1
      simp only [vcs, eqV, nilV, Option.map_some, Nat.mul_one, implies_true, true_and, and_true, and_self]
      refine stC_one (kO f1 hb20) (by simp [msgC]) rfl fun w28 o2 g2 => ?_
      refine (number34_c (k := 32) (by omega) (kR g2 r1)).mono ?_
      rintro _ w30 ⟨b', rfl, _, vb, r2, f2⟩
      rw [hb] at vb r2
      simp only [vcs, eqV, nilV, Option.map_some, Nat.mul_one, implies_true, true_and, and_true, and_self]
      refine stC_one (kO f2 o2) (by simp [msgC]) rfl fun w32 o3 g3 => ?_
      refine (number34_c (k := 10) (by omega) (kR g3 r2)).mono ?_
      rintro _ w112 ⟨n', rfl, hn', vn, r3, f3⟩
      rw [hn] at vn r3
      simp only [vcs, eqV, nilV, Option.map_some, Nat.mul_one, implies_true, true_and, and_true, and_self]
      obtain ⟨n0, hn0⟩ : ∃ n0 : Nat, n' = n0 := ⟨n'.toNat, by omega⟩
      subst hn0
      have hn1024 : (n0 : Int) < 1024 := hn'.2
      have hnn : rdB nn.toNat t3 [] = rdB n0 t3 [] := by
        by_cases e : t3.e = 0
        · have hv : (n0 : Int) = nn := vn (b3 e)
          rw [← hv, Int.toNat_natCast]
        · rw [rdB_stop e, rdB_stop e]
      rw [hnn] at hr
      have hF112 : Fm (fun i => i = R ∨ w.heap.size < i) w20 w112 := ((((nO f1).trans (nX g2)).trans (nO f2)).trans (nX g3)).trans (nO f3)
      have hs112 := hF112.size
      refine ⟨fun u w' => ∃ (i : Nat) (s' : RS) (acc : List Int) (q : Option Addr) (cq : Nat), u 6 = .int .i64 i ∧ RefAt w' R s' ∧ w'.heap[O]? = some (.cells (msgC { blank 9 with tick := IntKind.u32.wrap a', bse := IntKind.u32.wrap b', bytes := acc } q cq).toArray 53 (0, 0)) ∧
        w'.ownsRow w.heap.size 5 1 (.slice q acc.length cq) acc.length (acc.map (Value.int .u8)) ∧ (∀ y ∈ acc, 0 ≤ y ∧ y < 256) ∧ Fm (fun i => i = R ∨ w.heap.size < i) w20 w' ∧ acc.length = i ∧ i ≤ n0 ∧ rdB (n0 - i) s' acc = rdB n0 t3 [], fun u _ => n0 - (intOf (u 6)).toNat, ?_, ?_⟩
      · exact ⟨0, t3, [], none, 0, rfl, r3, kO f3 o3, own_nil _ _, by simp, hF112, rfl, by omega, rfl⟩
      rintro u w113 ⟨i, s', acc, q, cq, h6', hr', ho, hown, hrng, hF, hai, hin, hgo⟩
      change u 6 = _ at h6'
      simp only [h6', vcs, eqV, nilV, Option.map_some, Nat.mul_one, implies_true, true_and, and_true, and_self]
      obtain ⟨remx, hRx, hRx0, hRx1, hRx2⟩ := id hr'
      have done : rdB n0 t3 [] = (acc, s') → MsO w w20 R O 9 s1 w113 := by
        intro hd
        rw [hd] at hr
        refine ⟨_, q, cq, ho, ?_, ?_, hown, hrng, hF⟩
        · rw [(kn (by omega) (by omega)).2, hr]; exact hr'
        · rw [(kn (by omega) (by omega)).2, hr]
          intro e
          have e3 : t3.e = 0 := rdB_e0 n0 t3 [] (by rw [hd]; exact e)
          have e2 := b3 e3
          have e1 := b2 e2
          dsimp only at va vb
          rw [va (b1 e1), vb e1]
      refine br_dec (fun hlt => ?_) (fun hlt => done (by rw [← hgo, show n0 - i = 0 by omega]; rfl))
      simp only [addr_add, Nat.zero_add]
      refine rd_of (v := .int .i64 s'.e) (cellOf hRx rfl) ?_
      simp only [vcs, eqV, nilV, Option.map_some, Nat.mul_one, implies_true, true_and, and_true, and_self]
      refine br_dec (fun he => ?_) (fun he => done (by rw [← hgo]; exact rdB_stop he))
      obtain ⟨z, hz⟩ : ∃ z, n0 - i = z + 1 := ⟨n0 - i - 1, by omega⟩
      rw [hz] at hgo
      rw [rdB, if_pos he] at hgo
      refine (number34_c (k := 8) (by omega) hr').mono ?_
      rintro _ w117 ⟨y, rfl, hy, vy, r5, f5⟩
      have vy' := vy he
      rw [← vy'] at hgo
      simp only [vcs, eqV, nilV, Option.map_some, Nat.mul_one, implies_true, true_and, and_true, and_self]
      have hyw : IntKind.u8.wrap y = y := by simp only [IntKind.wrap, IntKind.bits, IntKind.signed]; simp; omega
      rw [hyw] at hgo ⊢
      have ho5 := kO f5 ho
      refine rd_of (v := .slice q acc.length cq) (cellOf ho5 rfl) ?_
      simp only [vcs, eqV, nilV, Option.map_some, Nat.mul_one, implies_true, true_and, and_true, and_self]
      have kslR : ∀ {w' : World} {c : Array Value} {t b : Nat}, w'.heap[b]? = some (.cells c t (0, 0)) → t ≠ 5 → w'.ownsRow w.heap.size 5 1 (.slice q acc.length cq) acc.length (acc.map (Value.int .u8)) → ¬ (Value.slice q acc.length cq).ownBlock = some b := by
        intro w' c t b hb ht ho e
        obtain ⟨_, cur, hc⟩ := own_block ho e
        rw [hb] at hc; cases hc; exact ht rfl
      have hown5 := f5.owns hown fun b hb e => kslR hRx (by decide) hown (by rw [← e]; exact hb)
      have hs117 := f5.size
      have hs113 := hF.size
      have hOl := lt_of_blk ho5
      refine append_1 (by rw [row25]) row5 rfl rfl hown5 (by omega) (by simp only [maxLen]; omega) (by omega) fun v w122 hv hf => ?_
      have hv2 : w122.ownsRow w.heap.size 5 1 v (acc ++ [y]).length ((acc ++ [y]).map (Value.int .u8)) := by rw [List.length_append, List.map_append]; exact hv
      obtain ⟨q4, c4, rfl, -⟩ := own_read hv2
      simp only [vcs, eqV, nilV, Option.map_some, Nat.mul_one, implies_true, true_and, and_true, and_self]
      obtain ⟨remy, hRy, hRy3⟩ := id r5
      have ho122 := hf.keep ho5 (kslR ho5 (by decide) hown5)
      refine stC_one ho122 (by simp [msgC]) rfl fun w127 o6 g6 => ?_
      change w127.heap[O]? = some (.cells (msgC { blank 9 with tick := IntKind.u32.wrap a', bse := IntKind.u32.wrap b', bytes := acc ++ [y] } q4 c4).toArray 53 (0, 0)) at o6
      refine ⟨⟨i + 1, (rdW 8 s').2, acc ++ [y], q4, c4, ?_, (r5.keep hf (kslR hRy (by decide) hown5)).keep g6 hRO, o6, g6.owns hv2 fun b hb e => ?_, ?_, ?_, by simp [hai], by omega, ?_⟩, ?_⟩
      · show Value.int _ _ = _
        rw [w64 (by omega)]; rfl
      · obtain ⟨_, cur, hc⟩ := own_block hv2 hb
        rw [e, ho122] at hc; cases hc
      · intro x hx
        rcases List.mem_append.1 hx with h | h
        · exact hrng x h
        · simp at h; subst h; exact ⟨hy.1, hy.2⟩
      · refine ((hF.trans (nO f5)).trans' hf fun b hb e => ?_).trans (nX g6)
        have h1 := (own_block hown5 e).1
        have h2 := kslR (f5.keep (hF.keep hA20 (by omega)) (by omega)) (by decide) hown5
        have h3 : b ≠ A := fun e' => h2 (by rw [← e']; exact e)
        exact .inr (by omega)
      · rw [show n0 - (i + 1) = z by omega]; exact hgo
      · show n0 - (IntKind.i64.wrap ((i : Int) + 1)).toNat < n0 - ((i : Nat) : Int).toNat
        rw [w64 (by omega)]; omega
    · have hr : rdFields k s1 = (blank k, s1) := by
        unfold rdFields
        rw [if_neg k2, if_neg k3, if_neg k6, if_neg k7, if_neg k5, if_neg k8, if_neg k9]
      refine ⟨blank k, none, 0, hb20, ?_, fun _ => by rw [hr], own_nil _ _, by simp [blank], Fm.refl _ _⟩
      rw [hr]; exact h20
  · rintro - w143 ⟨m, q, c, ho, hr, hm, hown, hrng, hf⟩
    have hOA : O ≠ A := by omega
    have hA143 := hf.keep hA20 (by omega)
    refine rd_of (v := msgC m q c) (cells_all ho rfl) ?_
    refine rd_of (v := ()) rfl ?_
    refine stC_all hA143 rfl msgC_one fun w146 hb146 hf146 => ?_
    refine rd_of (v := msgC m q c) (cells_all hb146 rfl) ?_
    refine ⟨m, q, c, rfl, hr.keep hf146 (by omega), hm, (by
      rw [hA]
      refine hf146.owns hown fun i hi e => ?_
      obtain ⟨_, cur, hc⟩ := own_block hown hi
      rw [e, hA143] at hc; cases hc), hrng, ?_⟩
    · exact (hF20.trans' hf (by rintro i hi (e | e); exact e; omega)).trans' hf146 (by rintro i hi rfl; omega)
end Go.Proofs.YtipikchkbmgloaaDoor
/- message's law 6: a datagram that is cut off is none.  Conditions: the messages may be read. -/
namespace Go.Proofs.YtipikchkbmgloaaDoor
set_option linter.unusedSimpArgs false
set_option linter.unusedVariables false
open Go Go.RowKit VC
/-- Messages as arguments are. -/
structure In (w : World) (p : Option Addr) (ms : List Msg) : Prop where
  rd : MsgsAt w w.heap.size p ms
  cap : Caps w p ms
  ok : ∀ m ∈ ms, Mok m
theorem MsgsAt.cells {w : World} {N : Nat} {p : Option Addr} {ms : List Msg} (h : MsgsAt w N p ms) {w' : World} {S : Nat → Prop} (f : Fm S w w') (hS : ∀ i, i < N → ¬ S i) {j : Nat} {m : Msg} {ad : Addr} (hj : ms[j]? = some m) (hp : p = some ad) : cellsAt w' (ad.add (j * 23)) 23 = cellsAt w (ad.add (j * 23)) 23 := by
  obtain ⟨ad', q, cq, e, hb, hc, -⟩ := h j m hj
  rw [hp] at e; cases e
  rw [hc]
  exact f.cells (by rw [add_block]; exact hS _ hb) hc
theorem In.keep {w w' : World} {p : Option Addr} {ms : List Msg} (h : In w p ms) (f : Fm none' w w') : In w' p ms :=
  ⟨(h.rd.keep f fun _ _ => id).up f.size, fun j m q cq ad hj hp hc => h.cap j m q cq ad hj hp (by rw [← h.rd.cells f (fun _ _ => id) hj hp]; exact hc), h.ok⟩
theorem few_len (ms : List Msg) : (fewM ms).length ≤ 20 := by unfold fewM; simp; omega
theorem mok_cut {m : Msg} (h : Mok m) (k : Nat) : Mok (cut k m) := ⟨h.kind, h.seq, h.cq, h.cb, h.cdx, h.cdy, h.ct, h.prov, h.id, h.shot, h.d0, h.d1, h.d2, h.why, h.p0, h.p1, h.p2, h.v0, h.v1, h.v2, h.tick, h.bse, fun y hy => h.bytes y (List.mem_of_mem_take hy)⟩
theorem few_mem {ms : List Msg} {m : Msg} (h : m ∈ fewM ms) : ∃ m0 ∈ ms, m = cut 2000 m0 := by
  unfold fewM at h
  obtain ⟨m0, h0, rfl⟩ := List.mem_map.1 h
  exact ⟨m0, List.mem_of_mem_take h0, rfl⟩
theorem few_ok {ms : List Msg} (h : ∀ m ∈ ms, Mok m) : Msok (fewM ms) ∧ ∀ m ∈ fewM ms, m.bytes.length ≤ 2000 := by
  have hl : ∀ m ∈ fewM ms, m.bytes.length ≤ 2000 := by
    intro m hm
    obtain ⟨m0, h0, rfl⟩ := few_mem hm
    show (m0.bytes.take 2000).length ≤ 2000
    rw [List.length_take]; omega
  refine ⟨⟨fun m hm => ?_, fun m hm => by have := hl m hm; omega, by have := few_len ms; omega⟩, hl⟩
  obtain ⟨m0, h0, rfl⟩ := few_mem hm
  exact mok_cut (h m0 h0) _
theorem enc_ok {l : List Msg} (h : Msok l) (he : (encodeM l).2 = 0) : (∀ m ∈ l, Rok m) ∧ l.length ≤ 16 ∧ (pack (encBits l)).length ≤ 1024 ∧ (encodeM l).1 = pack (encBits l) := by
  unfold encodeM at he ⊢
  split at he
  · rename_i ha
    rw [if_pos ha]
    split at he
    · cases he
    · rename_i hn
      rw [if_neg hn]
      rw [List.all_eq_true] at ha
      exact ⟨fun m hm => rok_of (h.ok m hm) (by have := h.len m hm; omega) (ha m hm), by omega, by omega, rfl⟩
  · cases he
theorem enc_of {l : List Msg} (h : ∀ m ∈ l, Rok m) : encodeM l = if 16 < l.length ∨ 1024 < (pack (encBits l)).length then ([], 5) else (pack (encBits l), 0) := by
  unfold encodeM
  rw [if_pos (List.all_eq_true.2 fun m hm => (h m hm).right)]
theorem encBits_pos (l : List Msg) : 0 < (pack (encBits l)).length := by
  rw [pack_length]
  unfold encBits
  rw [List.length_append, bitsOf_length]; omega
theorem BytesAt.lenle {w : World} {p : Option Addr} {ys : List Int} (_ : BytesAt w p ys) : True := trivial
variable {w : World}
end Go.Proofs.YtipikchkbmgloaaDoor
/- message.Encode, walked; what it gives.  Conditions: the messages may be read. -/
namespace Go.Proofs.YtipikchkbmgloaaDoor
set_option linter.unusedSimpArgs false
set_option linter.unusedVariables false
open Go Go.RowKit VC
variable {w : World}
/-- Encode, walked. -/
theorem enc_run {ms : List Msg} {p : Option Addr} {c : Nat} (hm : MsgsAt w w.heap.size p ms) (hok : Msok ms) :
    callV Tryd.prog 22 [.slice p ms.length c] w fun v w' => ∃ q d, v = .tuple #[.slice q (encodeM ms).1.length d, .int .i64 (encodeM ms).2] ∧ BytesAt w' q (encodeM ms).1 ∧ (encodeM ms).1.length ≤ d ∧ Fm none' w w' := by
  refine (encode14_c hm (Nat.le_refl _) hok).mono ?_
  rintro _ w9 ⟨sv, rfl, hown9, hf9⟩
  obtain ⟨p9, c9, rfl, -⟩ := own_read hown9
  exact ⟨p9, c9, rfl, BytesAt.of_own hown9, own_cap hown9, hf9⟩
theorem MsgsAt.fm {w w' : World} {p : Option Addr} {ms : List Msg} (h : MsgsAt w w.heap.size p ms) (f : Fm none' w w') : MsgsAt w' w'.heap.size p ms := (h.keep f fun _ _ => id).up f.size
theorem enc_inj {l m : List Msg} (hl : Msok l) (hm : Msok m) (h1 : (encodeM l).2 = 0) (h2 : (encodeM m).2 = 0) : (encodeM l).1 = (encodeM m).1 ↔ l = m := by
  obtain ⟨a1, a2, a3, a4⟩ := enc_ok hl h1
  obtain ⟨b1, b2, b3, b4⟩ := enc_ok hm h2
  rw [a4, b4]
  constructor
  · intro h
    have hd := dec_enc a1 a2 a3
    rw [h, dec_enc b1 b2 b3] at hd
    exact (congrArg Prod.fst hd).symm
  · intro h; rw [h]
theorem enc_range (l : List Msg) : ∀ y ∈ (encodeM l).1, 0 ≤ y ∧ y < 256 := by
  unfold encodeM
  split
  · split
    · intro y hy; cases hy
    · exact pack_range _
  · intro y hy; cases hy
end Go.Proofs.YtipikchkbmgloaaDoor
