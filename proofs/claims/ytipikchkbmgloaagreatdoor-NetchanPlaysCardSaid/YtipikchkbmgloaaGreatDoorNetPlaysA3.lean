/- What NetPlays needs, part 3 of 13: Lib.  Conditions: as each part says. -/
import Derived.Maps.AppendAt
import Derived.Test.YtipikchkbmgloaaGreatDoorNetPlaysA2
namespace Go.Proofs.YtipikchkbmgloaaGreatDoor.VC
set_option linter.unusedSimpArgs false
set_option linter.unusedVariables false
open Go Go.RowKit
structure Fm (S : Nat → Prop) (w w' : World) : Prop where
  os : w'.os = w.os
  tape : w'.tape = w.tape
  output : w'.output = w.output
  size : w.heap.size ≤ w'.heap.size
  blk : ∀ b, b < w.heap.size → ¬ S b → w'.heap[b]? = w.heap[b]?
def none' : Nat → Prop := fun _ => False
theorem Fm.refl (S : Nat → Prop) (w : World) : Fm S w w := ⟨rfl, rfl, rfl, Nat.le_refl _, fun _ _ _ => rfl⟩
theorem Fm.trans {S : Nat → Prop} {a b c : World} (h : Fm S a b) (k : Fm S b c) : Fm S a c :=
  ⟨k.os.trans h.os, k.tape.trans h.tape, k.output.trans h.output, Nat.le_trans h.size k.size, fun i hi hS => (k.blk i (Nat.lt_of_lt_of_le hi h.size) hS).trans (h.blk i hi hS)⟩
theorem Fm.mono {S S' : Nat → Prop} {a b : World} (h : Fm S a b) (hS : ∀ i, i < a.heap.size → S i → S' i) : Fm S' a b := ⟨h.os, h.tape, h.output, h.size, fun i hi hn => h.blk i hi fun hs => hn (hS i hi hs)⟩
theorem Fm.trans' {S S' : Nat → Prop} {a b c : World} (h : Fm S a b) (k : Fm S' b c) (hS : ∀ i, i < a.heap.size → S' i → S i) : Fm S a c :=
  ⟨k.os.trans h.os, k.tape.trans h.tape, k.output.trans h.output, Nat.le_trans h.size k.size, fun i hi hn => (k.blk i (Nat.lt_of_lt_of_le hi h.size) fun hs => hn (hS i hi hs)).trans (h.blk i hi hn)⟩
theorem Fm.drew (w : World) : Fm none' w w.drew := ⟨rfl, rfl, rfl, Nat.le_refl _, fun _ _ _ => rfl⟩
theorem Fm.alloc (w : World) (o : Obj) : Fm none' w (w.alloc o) := ⟨rfl, rfl, rfl, by simp, fun i hi _ => Below.heap_alloc w o i hi⟩
theorem Fm.setCell (w : World) (a : Addr) (v : Value) : Fm (fun i => i = a.block) w (w.setCell a v) := ⟨rfl, rfl, rfl, by simp, fun i _ hn => Below.heap_setCell w a v i hn⟩
theorem Fm.none {S : Nat → Prop} {a b : World} (h : Fm none' a b) : Fm S a b := h.mono fun _ _ h => h.elim
theorem Fm.grown {w w' : World} {r : Option Nat} (h : w.grownBy w' r) : Fm (fun i => r = some i) w w' := ⟨h.os, h.tape, h.output, h.size, fun i hi hn => h.block i hi (fun e => hn e.symm)⟩
theorem Fm.below {S : Nat → Prop} {w w' : World} (h : Fm S w w') {B : Nat} (hB : B ≤ w.heap.size) (hS : ∀ i, i < w.heap.size → S i → B ≤ i) : Below B w w' :=
  ⟨h.os, h.tape, h.output, h.size, fun k hk => h.blk k (by omega) fun hs => by have := hS k (by omega) hs; omega⟩
theorem Fm.keep {S : Nat → Prop} {w w' : World} (h : Fm S w w') {b : Nat} {o : Obj} (hb : w.heap[b]? = some o) (hS : ¬ S b) : w'.heap[b]? = some o := (h.blk b (Array.getElem?_eq_some_iff.1 hb).1 hS).trans hb
theorem Fm.cell {S : Nat → Prop} {w w' : World} (h : Fm S w w') {a : Addr} {v : Value} (hc : w.cell? a = some v) (hS : ¬ S a.block) : w'.cell? a = some v := by
  rw [World.cell?_of_block (w := w) (h.blk a.block (World.block_lt_of_cell? w a hc) hS)]; exact hc
theorem lt_of_blk {w : World} {b : Nat} {o : Obj} (h : w.heap[b]? = some o) : b < w.heap.size := (Array.getElem?_eq_some_iff.1 h).1
theorem cellOf {w : World} {b i : Nat} {c : Array Value} {t : TypeId} {f : Nat × Nat} {v : Value} (h : w.heap[b]? = some (.cells c t f)) (hv : c[i]? = some v) : w.cell? ⟨b, i, none⟩ = some v := by
  simp [World.cell?, h, hv]
theorem freeOf {w : World} {b i : Nat} {c : Array Value} {t : TypeId} (h : w.heap[b]? = some (.cells c t (0, 0))) : w.frozen? ⟨b, i, none⟩ = false := by
  simp [World.frozen?, h]
theorem setOf {w : World} {b i : Nat} {c : Array Value} {t : TypeId} {f : Nat × Nat} {v : Value} (h : w.heap[b]? = some (.cells c t f)) : (w.setCell ⟨b, i, none⟩ v).heap[b]? = some (.cells (c.setIfInBounds i v) t f) := by
  simp [World.setCell, Array.getElem?_modify, h]
theorem addr_add (b i n : Nat) : (⟨b, i, none⟩ : Addr).add n = ⟨b, i + n, none⟩ := by
  unfold Addr.add; split <;> simp_all
theorem stC_one {w : World} {b i : Nat} {c : Array Value} {t : TypeId} {v : Value} {K : World → Prop} (h : w.heap[b]? = some (.cells c t (0, 0))) (hi : i < c.size) (hv : v.oneCell' = true)
    (k : ∀ w', w'.heap[b]? = some (.cells (c.setIfInBounds i v) t (0, 0)) → Fm (fun j => j = b) w w' → K w') : stC w ⟨b, i, none⟩ [v] K := by
  refine ⟨⟨⟨c[i], ?_⟩, ?_, hv, trivial⟩, fun w' hw' => ?_⟩
  · rw [addr_add]; exact cellOf h (by simp [hi])
  · rw [addr_add]; exact freeOf h
  · subst hw'
    simp only [written, addr_add, Nat.add_zero]
    exact k _ (setOf h) (Fm.setCell w ⟨b, i, none⟩ v)
theorem allocC_of {w : World} {o : Obj} {K : Nat → World → Prop} (k : ∀ w', w'.heap[w.heap.size]? = some o → w'.heap.size = w.heap.size + 1 → Fm none' w w' → K w.heap.size w') : allocC w o K := by
  intro b w' hb hw'
  subst hb hw'
  exact k _ (by simpa using heap_alloc_new w o) (by simp) (Fm.alloc w o)
theorem info_of_row {P : Program} {e : TypeId} {k : K} {s b : Nat} {z : Value} (h : row P e = ⟨k, s, b, some z⟩) : ∃ i, P.info? e = some i ∧ i.zero = some z ∧ i.size = s ∧ i.bytes = b := by
  obtain ⟨i, d, hi, _, hz, hr⟩ := row_zero (P := P) (t := e) (z := z) (by rw [h])
  rw [h] at hr
  simp only [TI.mk.injEq] at hr
  exact ⟨i, hi, hz, hr.2.1.symm, hr.2.2.1.symm⟩
theorem slice_of_row {P : Program} {t e : TypeId} (h : (row P t).k = .slice e) : P.underlying t = some (.slice e) := by
  obtain ⟨i, d, hi, hd, hr⟩ := row_spec (P := P) (t := t) (by rw [h]; simp)
  rw [hr] at h
  cases d <;> simp [kOf] at h
  subst h
  exact hd
theorem append_one {P : Program} {w : World} {t e : TypeId} {k : K} {by_ : Nat} {z x s : Value} {n base : Nat} {xs : List Value} {KK : Value → World → Prop} (ht : (row P t).k = .slice e) (he : row P e = ⟨k, 1, by_, some z⟩) (hzs : z.cells.size = 1)
    (hx : x.oneCell' = true) (hown : w.ownsRow base e 1 s n xs) (hb : base ≤ w.heap.size) (h63 : n + 1 ≤ maxLen) (hby : (n + 1) * by_ ≤ 140737488355328)
    (kk : ∀ v' w', w'.ownsRow base e 1 v' (n + 1) (xs ++ [x]) → Fm (fun i => s.ownBlock = some i) w w' → v'.oneCell' = true → KK v' w') :
    runs P (Instr.buildSlice t 1 #[(0, x)]) w fun v1 w1 => runs P (Builtin.append_ #[t, t] t #[s, v1]) w1 KK := by
  obtain ⟨i, hi, hz, hsz, hbt⟩ := info_of_row he
  have hu := slice_of_row ht
  have hc : x.cells = #[x] := by cases x <;> simp [Value.oneCell'] at hx <;> rfl
  have hz' : z.cells.toList.length = 1 := by simpa using hzs
  have hbuild : (Instr.buildSlice t 1 #[(0, x)]).run P w = .ok (.slice (some ⟨w.heap.size, 0, none⟩) 1 1) (w.alloc (.cells #[x] e)) := by
    have hr : Array.range 1 = #[0] := rfl
    simp [Instr.buildSlice, run_underlying hu, run_size hi, hsz, run_zero hi hz, Instr.fill, hc, newRow, hr]
  refine ⟨_, _, hbuild, ?_⟩
  obtain ⟨v', w', hr, hown', hg, hnil⟩ := run_append_own (P := P) (w.alloc (.cells #[x] e)) base t t e i z 1 by_ hu hi hz hsz hbt hzs (by decide) s n xs (hown.alloc (.cells #[x] e)) ⟨w.heap.size, 0, none⟩ 1 1 [x] rfl
    (fun j u hj => by
      match j, hj with
      | 0, hj => simp at hj; subst hj; rw [addr_add]; exact cellOf (by simpa using heap_alloc_new w (.cells #[x] e)) rfl)
    (fun u hu => by simp at hu; subst hu; exact hx) h63 hby (by simp; omega)
  refine ⟨v', w', hr, kk v' w' hown' ((Fm.alloc w _).none.trans (Fm.grown hg)) ?_⟩
  rcases hown'.2 with ⟨rfl, _⟩ | ⟨g, cap, cur, rfl, _⟩ <;> rfl
theorem isB_i (b : Bool) (K : Bool → Prop) : isB (.bool b) K = K b := rfl
theorem rd_i {α : Type} (v : α) (K : α → Prop) : rd (some v) K = K v := rfl
theorem isPtr_i (a : Addr) (K : Addr → Prop) : isPtr (.pointer (some a)) K = K a := rfl
theorem isInt_i (k : IntKind) (i : Int) (K : IntKind → Int → Prop) : isInt (.int k i) K = K k i := rfl
theorem isSl_i (a : Option Addr) (n c : Nat) (K : Option Addr → Nat → Nat → Prop) : isSl (.slice a n c) K = K a n c := rfl
theorem isCs_i (cs : Array Value) (K : List Value → Prop) : isCs (.agg cs) K = K cs.toList := rfl
theorem isTup_i (cs : Array Value) (K : List Value → Prop) : isTup (.tuple cs) K = K cs.toList := rfl
theorem isFn_i (f : Fn) (a c : Array Value) (K : Fn → List Value → List Value → Prop) : isFn (.func f a c) K = K f a.toList c.toList := rfl
theorem isIf_i (t : TypeId) (v : Value) (K : TypeId → Value → Prop) : isIf (.iface t v) K = K t v := rfl
theorem isStr_i (s : ByteArray) (K : ByteArray → Prop) : isStr (.string s) K = K s := rfl
theorem br_t (A B : Prop) : br true A B = A := rfl
theorem br_f (A B : Prop) : br false A B = B := rfl
theorem orO_s {α : Type} (a : α) (b : Option α) : orO (some a) b = some a := rfl
theorem orO_n {α : Type} (b : Option α) : orO none b = b := rfl
theorem gd_t : gd true = some () := rfl
theorem w64 {n : Int} (h : -9223372036854775808 ≤ n ∧ n ≤ 9223372036854775807) : IntKind.i64.wrap n = n := by rw [IntKind.wrap_i64]; omega
theorem toN (n : Nat) : Int.toNat (n : Int) = n := rfl
theorem Fm.owns {S : Nat → Prop} {w w' : World} {base : Nat} {e : TypeId} {size : Nat} {v : Value} {n : Nat} {xs : List Value} (f : Fm S w w') (h : w.ownsRow base e size v n xs) (hS : ∀ i, v.ownBlock = some i → ¬ S i) : w'.ownsRow base e size v n xs := by
  refine ⟨h.1, ?_⟩
  rcases h.2 with hn | ⟨g, cap, cur, hv, hg, hgg, r⟩
  · exact .inl hn
  · exact .inr ⟨g, cap, cur, hv, hg, f.keep hgg (hS g (by rw [hv]; rfl)), r⟩
theorem own_read {w : World} {base : Nat} {e : TypeId} {v : Value} {n : Nat} {xs : List Value} (h : w.ownsRow base e 1 v n xs) :
    ∃ p cp, v = .slice p n cp ∧ ∀ j x, xs[j]? = some x → ∃ g, p = some ⟨g, 0, none⟩ ∧ base ≤ g ∧ v.ownBlock = some g ∧ w.cell? (Addr.add ⟨g, 0, none⟩ j) = some x := by
  have hl := h.1
  rcases h.2 with ⟨rfl, rfl⟩ | ⟨g, cap, cur, rfl, hg, hb, _, _, _, ht⟩
  · refine ⟨_, _, rfl, fun j x hj => ?_⟩
    have : xs = [] := by simpa using hl
    subst this; simp at hj
  · refine ⟨_, _, rfl, fun j x hj => ⟨g, rfl, hg, rfl, ?_⟩⟩
    rw [addr_add, Nat.zero_add]
    refine cellOf hb ?_
    rw [← ht] at hj
    have hjn : j < n := by
      have := (List.getElem?_eq_some_iff.1 hj).1
      simp at this; omega
    rw [List.getElem?_take] at hj
    simpa [hjn] using hj
theorem own_block {w : World} {base : Nat} {e : TypeId} {size : Nat} {v : Value} {n : Nat} {xs : List Value} (h : w.ownsRow base e size v n xs) {i : Nat} (hi : v.ownBlock = some i) : base ≤ i ∧ ∃ cur, w.heap[i]? = some (.cells cur e (0, 0)) := by
  rcases h.2 with ⟨rfl, rfl⟩ | ⟨g, cap, cur, rfl, hg, hb, _⟩
  · cases hi
  · cases hi; exact ⟨hg, _, hb⟩
theorem bv_add (k : IntKind) (a b : Int) : binV .add (.int k a) (.int k b) = some (.int k (k.wrap (a + b))) := by cases k <;> rfl
theorem bv_sub (k : IntKind) (a b : Int) : binV .sub (.int k a) (.int k b) = some (.int k (k.wrap (a - b))) := by cases k <;> rfl
theorem bv_mul (k : IntKind) (a b : Int) : binV .mul (.int k a) (.int k b) = some (.int k (k.wrap (a * b))) := by cases k <;> rfl
theorem bv_eql (k : IntKind) (a b : Int) : binV .eql (.int k a) (.int k b) = some (.bool (decide (a = b))) := by cases k <;> rfl
theorem bv_neq (k : IntKind) (a b : Int) : binV .neq (.int k a) (.int k b) = some (.bool (!decide (a = b))) := by cases k <;> rfl
theorem bv_lss (k : IntKind) (a b : Int) : binV .lss (.int k a) (.int k b) = some (.bool (decide (a < b))) := by cases k <;> rfl
theorem bv_leq (k : IntKind) (a b : Int) : binV .leq (.int k a) (.int k b) = some (.bool (decide (a ≤ b))) := by cases k <;> rfl
theorem bv_gtr (k : IntKind) (a b : Int) : binV .gtr (.int k a) (.int k b) = some (.bool (decide (b < a))) := by cases k <;> rfl
theorem bv_geq (k : IntKind) (a b : Int) : binV .geq (.int k a) (.int k b) = some (.bool (decide (b ≤ a))) := by cases k <;> rfl
theorem bv_quo (k : IntKind) (a b : Int) : binV .quo (.int k a) (.int k b) = dvN b (.int k (k.wrap (a.tdiv b))) := by cases k <;> rfl
theorem bv_rem (k : IntKind) (a b : Int) : binV .rem (.int k a) (.int k b) = dvN b (.int k (a.tmod b)) := by cases k <;> rfl
theorem dv_ne {b : Int} (v : Value) (h : b ≠ 0) : dvN b v = some v := by unfold dvN; split; exact absurd rfl h; rfl
theorem bv_shl (k k' : IntKind) (a : Int) (n : Nat) : binV .shl (.int k a) (.int k' n) = some (.int k (k.wrap (a * 2 ^ (min n k.bits)))) := rfl
theorem bv_shr (k k' : IntKind) (a : Int) (n : Nat) : binV .shr (.int k a) (.int k' n) = some (.int k (a.fdiv (2 ^ (min n k.bits)))) := rfl
theorem bv_seq (a b : ByteArray) : binV .eql (.string a) (.string b) = some (.bool (decide (a = b))) := rfl
theorem bv_sne (a b : ByteArray) : binV .neq (.string a) (.string b) = some (.bool (!decide (a = b))) := rfl
theorem bv_ptr (op : BinOp) (a : Option Addr) (y : Value) : binV op (.pointer a) y = none := rfl
theorem bv_if (op : BinOp) (t : TypeId) (v : Value) (y : Value) : binV op (.iface t v) y = none := rfl
theorem bv_map (op : BinOp) (m : Option Nat) (y : Value) : binV op (.map m) y = none := rfl
theorem bv_nf (op : BinOp)  (y : Value) : binV op (.nilFunc) y = none := rfl
theorem bv_bool (op : BinOp) (t : Bool) (y : Value) : binV op (.bool t) y = none := rfl
theorem bv_sl (op : BinOp) (a : Option Addr) (n c : Nat) (y : Value) : binV op (.slice a n c) y = none := rfl
theorem bv_fn (op : BinOp) (f : Fn) (a c : Array Value) (y : Value) : binV op (.func f a c) y = none := rfl
theorem uv_not (b : Bool) : unV .not (.bool b) = some (.bool !b) := rfl
theorem uv_neg (k : IntKind) (n : Int) : unV .neg (.int k n) = some (.int k (k.wrap (0 - n))) := rfl
theorem own_one {w : World} {base : Nat} {e : TypeId} {size : Nat} {v : Value} {n : Nat} {xs : List Value} (h : w.ownsRow base e size v n xs) : v.oneCell' = true := by
  rcases h.2 with ⟨rfl, _⟩ | ⟨g, cap, cur, rfl, _⟩ <;> rfl
theorem own_base {w : World} {base base' : Nat} {e : TypeId} {size : Nat} {v : Value} {n : Nat} {xs : List Value} (h : w.ownsRow base e size v n xs) (hb : base' ≤ base) : w.ownsRow base' e size v n xs := by
  refine ⟨h.1, ?_⟩
  rcases h.2 with h | ⟨g, cap, cur, hv, hg, r⟩
  · exact .inl h
  · exact .inr ⟨g, cap, cur, hv, by omega, r⟩
theorem elem_of_row {P : Program} {t e : TypeId} (h : (row P t).k = .slice e) : P.underlying t = some (.slice (P.elem t)) ∧ P.elem t = e := by
  have := slice_of_row h
  have h2 : P.elem t = e := by simp [Program.elem, this]
  exact ⟨by rw [h2]; exact this, h2⟩
theorem sliceAt_lo {P : Program} {w : World} {t e : TypeId} {k : K} {b : Nat} {z : Value} {a : Option Addr} {n c : Nat} {kl : IntKind} {l : Int} {KK : Value → World → Prop} (ht : (row P t).k = .slice e) (he : row P e = ⟨k, 1, b, some z⟩) (h0 : 0 ≤ l) (h1 : l ≤ n)
    (kk : KK (.slice (if c = l.toNat then a else a.map (·.add l.toNat)) (n - l.toNat) (c - l.toNat)) w) : runs P (Instr.sliceAt t (.slice a n c) (some (.int kl l)) none none) w KK := by
  obtain ⟨h, h2⟩ := elem_of_row ht
  obtain ⟨i, hi, hz, hsz, hbt⟩ := info_of_row he
  refine ⟨_, _, ?_, kk⟩
  rw [run_sliceAt_slice _ _ _ _ _ _ h, run_slice_l _ _ _ _ _ h _ _ h0 h1, h2, run_size hi, hsz]
  simp [Result.andThen, sliced]
theorem sliceAt_hi {P : Program} {w : World} {t e : TypeId} {k : K} {b : Nat} {z : Value} {a : Option Addr} {n c : Nat} {kl : IntKind} {l : Int} {KK : Value → World → Prop} (ht : (row P t).k = .slice e) (he : row P e = ⟨k, 1, b, some z⟩) (h0 : 0 ≤ l) (h1 : l ≤ c)
    (kk : KK (.slice (if c = 0 then a else a.map (·.add 0)) l.toNat c) w) : runs P (Instr.sliceAt t (.slice a n c) none (some (.int kl l)) none) w KK := by
  obtain ⟨h, h2⟩ := elem_of_row ht
  obtain ⟨i, hi, hz, hsz, hbt⟩ := info_of_row he
  refine ⟨_, _, ?_, kk⟩
  rw [run_sliceAt_slice _ _ _ _ _ _ h, run_slice_h _ _ _ _ _ h _ _ h0 h1, h2, run_size hi, hsz]
  simp [Result.andThen, sliced]
theorem build_none {P : Program} {w : World} {t e : TypeId} {k : K} {b : Nat} {z : Value} {KK : Value → World → Prop} (ht : (row P t).k = .slice e) (he : row P e = ⟨k, 1, b, some z⟩)
    (kk : ∀ s w', w'.ownsRow w.heap.size e 1 s 0 [] → w.heap.size < w'.heap.size → Fm none' w w' → KK s w') : runs P (Instr.buildSlice t 0 #[]) w KK := by
  obtain ⟨i, hi, hz, hsz, hbt⟩ := info_of_row he
  have hu := slice_of_row ht
  have hr : Array.range 0 = #[] := rfl
  have hbuild : (Instr.buildSlice t 0 #[]).run P w = .ok (.slice (some ⟨w.heap.size, 0, none⟩) 0 0) (w.alloc (.cells #[] e)) := by
    simp [Instr.buildSlice, run_underlying hu, run_size hi, hsz, run_zero hi hz, Instr.fill, newRow, hr]
  refine ⟨_, _, hbuild, kk _ _ ⟨rfl, .inr ⟨_, 0, #[], rfl, Nat.le_refl _, by simpa using heap_alloc_new w (.cells #[] e), Nat.le_refl _, by simp [maxLen], rfl, rfl⟩⟩ (by simp) (Fm.alloc w _)⟩
theorem nc_ptr (a : Addr) : nilChk (.pointer (some a)) = some (.pointer (some a)) := rfl
theorem nc_fn (f : FuncId) (x y : Array Value) : nilChk (.func (.func f) x y) = some (.func (.func f) x y) := rfl
theorem nc_if (t : TypeId) (v : Value) : nilChk (.iface t v) = some (.iface t v) := rfl
theorem own_set {w : World} {base : Nat} {e : TypeId} {s x : Value} {n j : Nat} {xs : List Value} {KK : World → Prop} (h : w.ownsRow base e 1 s n xs) (hj : j < n) (hx : x.oneCell' = true) :
    ∃ g c, s = .slice (some ⟨g, 0, none⟩) n c ∧ ((∀ w', w'.ownsRow base e 1 s n (xs.set j x) → Fm (fun i => i = g) w w' → KK w') → stC w (Addr.add ⟨g, 0, none⟩ j) [x] KK) := by
  have hl := h.1
  rcases h.2 with ⟨rfl, rfl⟩ | ⟨g, cap, cur, rfl, hg, hb, hn, hc, hs, ht⟩
  · omega
  · refine ⟨g, cap, rfl, fun kk => ?_⟩
    rw [addr_add, Nat.zero_add]
    refine stC_one hb (by omega) hx fun w' hw hf => kk w' ⟨by simpa using hl, .inr ⟨g, cap, _, rfl, hg, hw, hn, hc, by simpa using hs, ?_⟩⟩ hf
    rw [← ht, Array.toList_setIfInBounds, List.take_set]
theorem isK_i (k : IntKind) (i : Int) (K : Int → Prop) : isK k (.int k i) K = K i := by cases k <;> rfl
theorem isP_i (a : Option Addr) (K : Option Addr → Prop) : isP (.pointer a) K = K a := rfl
theorem append_1 {P : Program} {w : World} {t e : TypeId} {k : K} {by_ : Nat} {z x s : Value} {n base : Nat} {xs : List Value} {KK : Value → World → Prop} (ht : (row P t).k = .slice e) (he : row P e = ⟨k, 1, by_, some z⟩) (hzs : z.cells.size = 1)
    (hx : x.oneCell' = true) (hown : w.ownsRow base e 1 s n xs) (hb : base ≤ w.heap.size) (h63 : n + 1 ≤ maxLen) (hby : (n + 1) * by_ ≤ 140737488355328)
    (kk : ∀ v' w', w'.ownsRow base e 1 v' (n + 1) (xs ++ [x]) → Fm (fun i => s.ownBlock = some i) w w' → KK v' w') :
    runs P (Instr.buildSlice t 1 #[(0, x)]) w fun v1 w1 => isSl v1 fun o n c => runs P (Builtin.append_ #[t, t] t #[s, .slice o n c]) w1 KK := by
  obtain ⟨v1, w1, h1, h2⟩ := append_one (P := P) (KK := KK) ht he hzs hx hown hb h63 hby (fun v' w' a b _ => kk v' w' a b)
  obtain ⟨i, hi, hz, hsz, hbt⟩ := info_of_row he
  have hu := slice_of_row ht
  have hc : x.cells = #[x] := by cases x <;> simp [Value.oneCell'] at hx <;> rfl
  have hbuild : (Instr.buildSlice t 1 #[(0, x)]).run P w = .ok (.slice (some ⟨w.heap.size, 0, none⟩) 1 1) (w.alloc (.cells #[x] e)) := by
    have hr : Array.range 1 = #[0] := rfl
    have hz' : z.cells.toList.length = 1 := by simpa using hzs
    simp [Instr.buildSlice, run_underlying hu, run_size hi, hsz, run_zero hi hz, Instr.fill, hc, newRow, hr]
  rw [hbuild] at h1
  cases h1
  exact ⟨_, _, hbuild, h2⟩
theorem andI_le (a : Int) (m : Nat) (hm : m < 9223372036854775808) : 0 ≤ andI .i64 a m ∧ andI .i64 a m ≤ m := by
  have hb : IntKind.bits .i64 = 64 := rfl
  unfold andI
  rw [hb]
  have h1 : (BitVec.ofInt 64 (m : Int)).toNat = m := by
    rw [BitVec.toNat_ofInt]; omega
  have h2 : (BitVec.ofInt 64 a &&& BitVec.ofInt 64 (m : Int)).toNat ≤ m := by
    rw [BitVec.toNat_and, h1]; exact Nat.and_le_right
  rw [w64 (by omega)]
  omega
theorem stC_from {b : Nat} {t : TypeId} : ∀ (vs : List Value) (i : Nat) (w : World) (c : Array Value), w.heap[b]? = some (.cells c t (0, 0)) → i + vs.length = c.size → (∀ v ∈ vs, v.oneCell' = true) →
    canWrite w ⟨b, 0, none⟩ i vs ∧ ∃ c' : Array Value, (written w ⟨b, 0, none⟩ i vs).heap[b]? = some (.cells c' t (0, 0)) ∧ c'.toList = c.toList.take i ++ vs ∧ Fm (fun j => j = b) w (written w ⟨b, 0, none⟩ i vs) := by
  intro vs
  induction vs with
  | nil =>
    intro i w c h hi _
    exact ⟨trivial, c, h, by rw [List.append_nil, List.take_of_length_le (by simp at hi ⊢; omega)], Fm.refl _ _⟩
  | cons v vs ih =>
    intro i w c h hi hv
    simp only [List.length_cons] at hi
    have hs : (w.setCell ⟨b, i, none⟩ v).heap[b]? = some (.cells (c.setIfInBounds i v) t (0, 0)) := setOf h
    obtain ⟨h1, c', h2, h3, h4⟩ := ih (i + 1) (w.setCell ⟨b, i, none⟩ v) (c.setIfInBounds i v) hs (by simp; omega) (fun x hx => hv x (List.mem_cons_of_mem _ hx))
    have he : (⟨b, 0, none⟩ : Addr).add i = ⟨b, i, none⟩ := by rw [addr_add, Nat.zero_add]
    refine ⟨⟨⟨c[i]'(by omega), ?_⟩, ?_, hv v List.mem_cons_self, ?_⟩, c', ?_, ?_, ?_⟩
    · rw [he]; exact cellOf h (by simp)
    · rw [he]; exact freeOf h
    · rw [he]; exact h1
    · simp only [written, he]; exact h2
    · rw [h3, Array.toList_setIfInBounds]
      rw [List.take_set, List.take_add_one, List.getElem?_eq_getElem (by simp; omega), List.set_append_right _ _ (by simp; omega)]
      simp [Nat.min_eq_left (show i ≤ c.size by omega)]
    · simp only [written, he]
      exact (Fm.setCell w ⟨b, i, none⟩ v).trans h4
theorem stC_all {w : World} {b : Nat} {c : Array Value} {t : TypeId} {vs : List Value} {K : World → Prop} (h : w.heap[b]? = some (.cells c t (0, 0))) (hs : vs.length = c.size) (hv : ∀ v ∈ vs, v.oneCell' = true)
    (k : ∀ w', w'.heap[b]? = some (.cells vs.toArray t (0, 0)) → Fm (fun j => j = b) w w' → K w') : stC w ⟨b, 0, none⟩ vs K := by
  obtain ⟨h1, c', h2, h3, h4⟩ := stC_from vs 0 w c h (by omega) hv
  refine ⟨h1, fun w' hw' => ?_⟩
  subst hw'
  refine k _ ?_ h4
  rw [h2, show c' = vs.toArray from Array.ext' (by rw [h3]; simp)]
theorem cells_row {w : World} {b i : Nat} {c : Array Value} {t : TypeId} {f : Nat × Nat} (h : w.heap[b]? = some (.cells c t f)) : ∀ {n : Nat}, i + n ≤ c.size → cellsAt w ⟨b, i, none⟩ n = some ((c.toList.drop i).take n) := by
  intro n
  induction n with
  | zero => intro _; rfl
  | succ n ih =>
    intro hn
    have hc := cellOf (i := i + n) h (v := c[i + n]'(by omega)) (by simp)
    simp only [cellsAt, ih (by omega), addr_add, hc, Option.map_some, Option.bind_some]
    rw [List.take_add_one, List.getElem?_drop, List.getElem?_eq_getElem (by simp; omega)]
    simp
theorem cells_all {w : World} {b : Nat} {c : Array Value} {t : TypeId} {f : Nat × Nat} {n : Nat} (h : w.heap[b]? = some (.cells c t f)) (hn : n = c.size) : cellsAt w ⟨b, 0, none⟩ n = some c.toList := by
  rw [cells_row h (by omega), List.drop_zero, List.take_of_length_le (by simp; omega)]
theorem Fm.cells {S : Nat → Prop} {w w' : World} (h : Fm S w w') {a : Addr} (hS : ¬ S a.block) : ∀ {n : Nat} {l : List Value}, cellsAt w a n = some l → cellsAt w' a n = some l := by
  intro n
  induction n with
  | zero => intro l hl; exact hl
  | succ n ih =>
    intro l hl
    simp only [cellsAt, Option.bind_eq_some_iff, Option.map_eq_some_iff] at hl ⊢
    obtain ⟨x, h1, v, h2, h3⟩ := hl
    exact ⟨x, ih h1, v, h.cell h2 (by unfold Addr.add; split <;> exact hS), h3⟩
theorem fold_set : ∀ (vs : List Value) (i : Nat) (C : Array Value), i + vs.length ≤ C.size → ((vs.zipIdx i).foldl (fun acc (p : Value × Nat) => acc.setIfInBounds (0 + p.2) p.1) C).toList = C.toList.take i ++ vs ++ C.toList.drop (i + vs.length) := by
  intro vs
  induction vs with
  | nil => intro i C _; simp
  | cons v vs ih =>
    intro i C h
    simp only [List.length_cons] at h
    rw [List.zipIdx_cons, List.foldl_cons, ih (i + 1) _ (by simp; omega)]
    simp only [Nat.zero_add, Array.toList_setIfInBounds, List.length_cons]
    have hi : i < C.toList.length := by simp; omega
    rw [List.take_set, List.take_add_one, List.getElem?_eq_getElem hi, List.set_append_right _ _ (by simp; omega), List.drop_set_of_lt (by omega)]
    simp [Nat.min_eq_left (show i ≤ C.size by omega), show i + 1 + vs.length = i + (vs.length + 1) by omega]
theorem own_readS {w : World} {base : Nat} {e : TypeId} {size : Nat} {v : Value} {n : Nat} {xs : List Value} (h : w.ownsRow base e size v n xs) :
    ∃ p cp, v = .slice p n cp ∧ xs.length = n * size ∧ ∀ j x, xs[j]? = some x → ∃ g, p = some ⟨g, 0, none⟩ ∧ base ≤ g ∧ v.ownBlock = some g ∧ w.cell? ⟨g, j, none⟩ = some x := by
  have hl := h.1
  rcases h.2 with ⟨rfl, rfl⟩ | ⟨g, cap, cur, rfl, hg, hb, _, _, _, ht⟩
  · refine ⟨_, _, rfl, hl, fun j x hj => ?_⟩
    have : xs = [] := by simpa using hl
    subst this; simp at hj
  · refine ⟨_, _, rfl, hl, fun j x hj => ⟨g, rfl, hg, rfl, ?_⟩⟩
    refine cellOf hb ?_
    rw [← ht] at hj
    have hjn : j < n * size := by
      have := (List.getElem?_eq_some_iff.1 hj).1
      simp at this; omega
    rw [List.getElem?_take] at hj
    simpa [hjn] using hj
theorem append_S {P : Program} {w : World} {t e : TypeId} {k : K} {size by_ : Nat} {z s : Value} {n base : Nat} {xs cs : List Value} {KK : Value → World → Prop} (ht : (row P t).k = .slice e) (he : row P e = ⟨k, size, by_, some z⟩) (hzs : z.cells.size = size)
    (hsz : 0 < size) (hbig : size ≤ 16777216) (hcs : cs.length = size) (h1 : ∀ u ∈ cs, u.oneCell' = true) (hown : w.ownsRow base e size s n xs) (hb : base ≤ w.heap.size) (h63 : n + 1 ≤ maxLen) (hby : (n + 1) * by_ ≤ 140737488355328)
    (kk : ∀ v' w', w'.ownsRow base e size v' (n + 1) (xs ++ cs) → Fm (fun i => s.ownBlock = some i) w w' → (v'.ownBlock = s.ownBlock ∨ ∃ g, v'.ownBlock = some g ∧ w.heap.size ≤ g) → KK v' w') :
    runs P (Instr.buildSlice t 1 #[(0, .agg cs.toArray)]) w fun v1 w1 => isSl v1 fun o n c => runs P (Builtin.append_ #[t, t] t #[s, .slice o n c]) w1 KK := by
  obtain ⟨i, hi, hz, hsi, hbt⟩ := info_of_row he
  have hu := slice_of_row ht
  have hbuild : (Instr.buildSlice t 1 #[(0, .agg cs.toArray)]).run P w = .ok (.slice (some ⟨w.heap.size, 0, none⟩) 1 1) (w.alloc (.cells cs.toArray e)) := by
    have hf : ∀ C : Array Value, C.size = size → Instr.fill (fun i => some (i * size, size)) C [(0, .agg cs.toArray)] = some cs.toArray := by
      intro C hC
      have hc : (Value.agg cs.toArray).cells = cs.toArray := rfl
      have hfd : cs.toArray.zipIdx.foldl (fun acc (p : Value × Nat) => acc.setIfInBounds (0 + p.2) p.1) C = cs.toArray := by
        apply Array.ext'
        rw [← Array.foldl_toList]
        have : cs.toArray.zipIdx.toList = cs.zipIdx 0 := by simp
        rw [this, fold_set cs 0 C (by omega)]
        rw [List.drop_eq_nil_of_le (by simp; omega)]
        simp
      simp only [Instr.fill, hc, Nat.zero_mul]
      rw [if_neg (by simp; omega), hfd]
    have hr : ((Array.range (1 * size)).map (z.cells[· % z.cells.size]!)).size = size := by simp
    simp only [Instr.buildSlice, Sem.run_bind, run_underlying hu, run_size hi, hsi, Result.andThen_ok]
    rw [if_neg (by omega)]
    simp only [Sem.run_pure, Result.andThen_ok, Nat.one_mul, if_neg (show ¬ size = 0 by omega), Sem.run_bind, run_zero hi hz]
    rw [Nat.one_mul] at hr
    simp only [Sem.run_map, run_zero hi hz, Result.andThen_ok, hf _ hr, newRow, Sem.run_bind, Sem.run_pure]
    rfl
  refine ⟨_, _, hbuild, ?_⟩
  simp only [isSl]
  obtain ⟨v', w', hr, hown', hg, hnil, hblk⟩ := run_append_own_at (P := P) (w.alloc (.cells cs.toArray e)) base t t e i z size by_ hu hi hz hsi hbt hzs hsz s n xs (hown.alloc (.cells cs.toArray e)) ⟨w.heap.size, 0, none⟩ 1 1 cs (by omega)
    (fun j u hj => by
      rw [addr_add, Nat.zero_add]
      exact cellOf (by simpa using heap_alloc_new w (.cells cs.toArray e)) (by simpa using hj))
    h1 h63 hby (by simp; omega)
  refine ⟨v', w', hr, kk v' w' hown' ((Fm.alloc w _).none.trans (Fm.grown hg)) ?_⟩
  rcases hblk with h | h
  · exact .inl h
  · exact .inr ⟨_, h, by simp⟩
theorem build_1 {P : Program} {w : World} {t e : TypeId} {k : K} {by_ : Nat} {z x : Value} {KK : Value → World → Prop} (ht : (row P t).k = .slice e) (he : row P e = ⟨k, 1, by_, some z⟩) (hzs : z.cells.size = 1) (hx : x.oneCell' = true)
    (kk : ∀ w', w'.heap[w.heap.size]? = some (.cells #[x] e (0, 0)) → w'.heap.size = w.heap.size + 1 → Fm none' w w' → KK (.slice (some ⟨w.heap.size, 0, none⟩) 1 1) w') : runs P (Instr.buildSlice t 1 #[(0, x)]) w KK := by
  obtain ⟨i, hi, hz, hsz, hbt⟩ := info_of_row he
  have hu := slice_of_row ht
  have hc : x.cells = #[x] := by cases x <;> simp [Value.oneCell'] at hx <;> rfl
  have hz' : z.cells.toList.length = 1 := by simpa using hzs
  have hbuild : (Instr.buildSlice t 1 #[(0, x)]).run P w = .ok (.slice (some ⟨w.heap.size, 0, none⟩) 1 1) (w.alloc (.cells #[x] e)) := by
    have hr : Array.range 1 = #[0] := rfl
    simp [Instr.buildSlice, run_underlying hu, run_size hi, hsz, run_zero hi hz, Instr.fill, hc, newRow, hr]
  exact ⟨_, _, hbuild, kk _ (by simpa using heap_alloc_new w (.cells #[x] e)) (by simp) (Fm.alloc w _)⟩
theorem yield_of {P : Program} {l m : Nat} {args : List Value} {W : World} {R : Ending → World → Prop} {K : Value → World → Prop} (h : YieldAt Fence.wide m P l args.toArray W R) (hr : ∀ e w', R e w' → ∃ v, e = .returned v ∧ K v w') : yieldV P l args W K := by
  obtain ⟨fn, tmps, assign, body, hy, hR⟩ := h
  exact ⟨fn, tmps, assign, body, hy, (round_any (r := none) (n := 0) hR).mono hr⟩
theorem callF_yield {P : Program} {l : Nat} {args : List Value} {W : World} {K : Value → World → Prop} : callF P (.yield l) args [] W K = yieldV P l args W K := rfl
theorem callF_func {P : Program} {g : FuncId} {args cpt : List Value} {W : World} {K : Value → World → Prop} : callF P (.func g) args cpt W K = callV P g (args ++ cpt) W K := rfl
theorem below_fm {w W : World} (h : Below w.heap.size w W) : Fm none' w W := ⟨h.os, h.tape, h.output, h.size, fun i hi _ => h.block i hi⟩
def KpB (Q : Nat → Prop) (W W' : World) : Prop := ∀ i o, Q i → W.heap[i]? = some o → W'.heap[i]? = some o
theorem KpB.t {Q : Nat → Prop} (A B C : World) (h : KpB Q A B) (k : KpB Q B C) : KpB Q A C := fun i o hi ho => k i o hi (h i o hi ho)
theorem KpB.b {Q : Nat → Prop} {w : World} (hQ : ∀ i, Q i → i < w.heap.size) (W : World) (l : Nat) (o o' : Obj) (hl : w.heap.size ≤ l) (_ : W.heap[l]? = some o) (_ : o.isCells = false) (_ : o.isWalk = false) : KpB Q W (W.putObj l o') := fun i x hi hx => by
  rw [World.putObj_heap_other (k := i) (r := l) (by have := hQ i hi; omega)]; exact hx
theorem KpB.fm {Q S : Nat → Prop} {W W' : World} (h : Fm S W W') (hS : ∀ i, Q i → ¬ S i) : KpB Q W W' := fun i _ hi ho => h.keep ho (hS i hi)
theorem keeps_of {S : Nat → Prop} {W W' : World} {B : Nat} (h : Fm S W W') (hS : ∀ i, S i → ∃ c t f, W.heap[i]? = some (.cells c t f)) : KeepsFrom B W W' :=
  ⟨h.size, fun k o _ hk ho => h.keep hk fun hs => by obtain ⟨c, t, f, hc⟩ := hS k hs; rw [hc] at hk; cases hk; cases ho⟩
theorem row_fm {W W' : World} {row : Option Nat} (hg : W.grownBy W' row) : Fm (fun i => row = some i) W W' := Fm.grown hg
theorem row_ncell {W : World} {row : Option Nat} {B i : Nat} {c : Array Value} {t : TypeId} {f : Nat × Nat} (hr : ∀ r, row = some r → B ≤ r ∧ ∃ o : Obj, W.heap[r]? = some o ∧ o.isCells = false) (h : W.heap[i]? = some (.cells c t f)) : ¬ row = some i := fun e => by
  obtain ⟨_, o, ho, hc⟩ := hr i e
  rw [h] at ho; cases ho; cases hc
theorem leave_1 {D : Nat} {W : World} {K : World → Prop} (h : W.heap[D]? = some (.deferred (some []))) (k : ∀ W', Fm (fun i => i = D) W W' → K W') : leaveC (.tuple #[.pointer (some ⟨D, 0, none⟩)]) W K := by
  refine ⟨fun d hd => ?_, by simp, k _ ?_⟩
  · obtain rfl : d = D := by simpa using hd
    exact h
  · exact (Fm.grown (grownBy_putObj' W D (.deferred none))).mono fun i _ e => by cases e; rfl
theorem append_at {P : Program} {w : World} {t e : TypeId} {k : K} {by_ : Nat} {z s : Value} {n base m c : Nat} {xs news : List Value} {a : Addr} {KK : Value → World → Prop} (ht : (row P t).k = .slice e) (he : row P e = ⟨k, 1, by_, some z⟩) (hzs : z.cells.size = 1)
    (hown : w.ownsRow base e 1 s n xs) (hl : news.length = m) (hnews : ∀ j u, news[j]? = some u → w.cell? (a.add j) = some u) (h1 : ∀ u ∈ news, u.oneCell' = true) (hb : base ≤ w.heap.size) (h63 : n + m ≤ maxLen) (hby : (n + m) * by_ ≤ 140737488355328)
    (kk : ∀ v' w', w'.ownsRow base e 1 v' (n + m) (xs ++ news) → Fm (fun i => s.ownBlock = some i) w w' → (v'.ownBlock = s.ownBlock ∨ v'.ownBlock = some w.heap.size) → KK v' w') :
    runs P (Builtin.append_ #[t, t] t #[s, .slice (some a) m c]) w KK := by
  obtain ⟨i, hi, hz, hsz, hbt⟩ := info_of_row he
  have hu := slice_of_row ht
  obtain ⟨v', w', hr, hown', hg, hnil, hblk⟩ := run_append_own_at (P := P) w base t t e i z 1 by_ hu hi hz hsz hbt hzs (by decide) s n xs hown a m c news (by omega) hnews h1 h63 hby hb
  exact ⟨v', w', hr, kk v' w' hown' (Fm.grown hg) hblk⟩
theorem build_2 {P : Program} {w : World} {t e : TypeId} {k : K} {by_ : Nat} {z x0 x1 : Value} {KK : Value → World → Prop} (ht : (row P t).k = .slice e) (he : row P e = ⟨k, 1, by_, some z⟩) (hzs : z.cells.size = 1) (h0 : x0.oneCell' = true) (h1 : x1.oneCell' = true)
    (kk : ∀ w', w'.heap[w.heap.size]? = some (.cells #[x0, x1] e (0, 0)) → w'.heap.size = w.heap.size + 1 → Fm none' w w' → KK (.slice (some ⟨w.heap.size, 0, none⟩) 2 2) w') : runs P (Instr.buildSlice t 2 #[(0, x0), (1, x1)]) w KK := by
  obtain ⟨i, hi, hz, hsz, hbt⟩ := info_of_row he
  have hu := slice_of_row ht
  have hc0 : x0.cells = #[x0] := by cases x0 <;> simp [Value.oneCell'] at h0 <;> rfl
  have hc1 : x1.cells = #[x1] := by cases x1 <;> simp [Value.oneCell'] at h1 <;> rfl
  have hz' : z.cells.toList.length = 1 := by simpa using hzs
  have hbuild : (Instr.buildSlice t 2 #[(0, x0), (1, x1)]).run P w = .ok (.slice (some ⟨w.heap.size, 0, none⟩) 2 2) (w.alloc (.cells #[x0, x1] e)) := by
    have hr : Array.range 2 = #[0, 1] := rfl
    simp [Instr.buildSlice, run_underlying hu, run_size hi, hsz, run_zero hi hz, Instr.fill, hc0, hc1, newRow, hr]
  exact ⟨_, _, hbuild, kk _ (by simpa using heap_alloc_new w (.cells #[x0, x1] e)) (by simp) (Fm.alloc w _)⟩
theorem build_3 {P : Program} {w : World} {t e : TypeId} {k : K} {by_ : Nat} {z x0 x1 x2 : Value} {KK : Value → World → Prop} (ht : (row P t).k = .slice e) (he : row P e = ⟨k, 1, by_, some z⟩) (hzs : z.cells.size = 1) (h0 : x0.oneCell' = true) (h1 : x1.oneCell' = true) (h2 : x2.oneCell' = true)
    (kk : ∀ w', w'.heap[w.heap.size]? = some (.cells #[x0, x1, x2] e (0, 0)) → w'.heap.size = w.heap.size + 1 → Fm none' w w' → KK (.slice (some ⟨w.heap.size, 0, none⟩) 3 3) w') : runs P (Instr.buildSlice t 3 #[(0, x0), (1, x1), (2, x2)]) w KK := by
  obtain ⟨i, hi, hz, hsz, hbt⟩ := info_of_row he
  have hu := slice_of_row ht
  have hc0 : x0.cells = #[x0] := by cases x0 <;> simp [Value.oneCell'] at h0 <;> rfl
  have hc1 : x1.cells = #[x1] := by cases x1 <;> simp [Value.oneCell'] at h1 <;> rfl
  have hc2 : x2.cells = #[x2] := by cases x2 <;> simp [Value.oneCell'] at h2 <;> rfl
  have hz' : z.cells.toList.length = 1 := by simpa using hzs
  have hbuild : (Instr.buildSlice t 3 #[(0, x0), (1, x1), (2, x2)]).run P w = .ok (.slice (some ⟨w.heap.size, 0, none⟩) 3 3) (w.alloc (.cells #[x0, x1, x2] e)) := by
    have hr : Array.range 3 = #[0, 1, 2] := rfl
    simp [Instr.buildSlice, run_underlying hu, run_size hi, hsz, run_zero hi hz, Instr.fill, hc0, hc1, hc2, newRow, hr]
  exact ⟨_, _, hbuild, kk _ (by simpa using heap_alloc_new w (.cells #[x0, x1, x2] e)) (by simp) (Fm.alloc w _)⟩
theorem vcs : (∀ (b : Bool) (K : Bool → Prop), isB (.bool b) K = K b) ∧
    (∀ (k : IntKind) (i : Int) (K : Int → Prop), isK k (.int k i) K = K i) ∧
    (∀ (a : Option Addr) (K : Option Addr → Prop), isP (.pointer a) K = K a) ∧
    (∀ (cs : Array Value) (K : List Value → Prop), isTup (.tuple cs) K = K cs.toList) ∧
    (∀ (k : IntKind) (i : Int) (K : IntKind → Int → Prop), isInt (.int k i) K = K k i) ∧
    (∀ (a : Option Addr) (n c : Nat) (K : Option Addr → Nat → Nat → Prop), isSl (.slice a n c) K = K a n c) ∧
    (∀ (a : Addr) (K : Addr → Prop), isPtr (.pointer (some a)) K = K a) ∧
    (∀ (cs : Array Value) (K : List Value → Prop), isCs (.agg cs) K = K cs.toList) ∧
    (∀ (s : ByteArray) (K : ByteArray → Prop), isStr (.string s) K = K s) ∧
    (∀ (f : Fn) (a c : Array Value) (K : Fn → List Value → List Value → Prop), isFn (.func f a c) K = K f a.toList c.toList) ∧
    (∀ (t : TypeId) (v : Value) (K : TypeId → Value → Prop), isIf (.iface t v) K = K t v) ∧
    (∀ {α : Type} (v : α) (K : α → Prop), rd (some v) K = K v) ∧
    (∀ (A B : Prop), br true A B = A) ∧
    (∀ (A B : Prop), br false A B = B) ∧
    (∀ {α : Type} (a : α) (b : Option α), orO (some a) b = some a) ∧
    (∀ {α : Type} (b : Option α), orO none b = b) ∧
    (gd true = some ()) ∧
    (∀ (k : IntKind) (a b : Int), binV .add (.int k a) (.int k b) = some (.int k (k.wrap (a + b)))) ∧
    (∀ (k : IntKind) (a b : Int), binV .sub (.int k a) (.int k b) = some (.int k (k.wrap (a - b)))) ∧
    (∀ (k : IntKind) (a b : Int), binV .mul (.int k a) (.int k b) = some (.int k (k.wrap (a * b)))) ∧
    (∀ (k : IntKind) (a b : Int), binV .eql (.int k a) (.int k b) = some (.bool (decide (a = b)))) ∧
    (∀ (k : IntKind) (a b : Int), binV .neq (.int k a) (.int k b) = some (.bool (!decide (a = b)))) ∧
    (∀ (k : IntKind) (a b : Int), binV .lss (.int k a) (.int k b) = some (.bool (decide (a < b)))) ∧
    (∀ (k : IntKind) (a b : Int), binV .leq (.int k a) (.int k b) = some (.bool (decide (a ≤ b)))) ∧
    (∀ (k : IntKind) (a b : Int), binV .gtr (.int k a) (.int k b) = some (.bool (decide (b < a)))) ∧
    (∀ (k : IntKind) (a b : Int), binV .geq (.int k a) (.int k b) = some (.bool (decide (b ≤ a)))) ∧
    (∀ (k : IntKind) (a b : Int), binV .quo (.int k a) (.int k b) = dvN b (.int k (k.wrap (a.tdiv b)))) ∧
    (∀ (k : IntKind) (a b : Int), binV .rem (.int k a) (.int k b) = dvN b (.int k (a.tmod b))) ∧
    (∀ (k k' : IntKind) (a : Int) (n : Nat), binV .shl (.int k a) (.int k' n) = some (.int k (k.wrap (a * 2 ^ (min n k.bits))))) ∧
    (∀ (k k' : IntKind) (a : Int) (n : Nat), binV .shr (.int k a) (.int k' n) = some (.int k (a.fdiv (2 ^ (min n k.bits))))) ∧
    (∀ (a b : ByteArray), binV .eql (.string a) (.string b) = some (.bool (decide (a = b)))) ∧
    (∀ (a b : ByteArray), binV .neq (.string a) (.string b) = some (.bool (!decide (a = b)))) ∧
    (∀ (op : BinOp) (a : Option Addr) (y : Value), binV op (.pointer a) y = none) ∧
    (∀ (op : BinOp) (t : TypeId) (v : Value) (y : Value), binV op (.iface t v) y = none) ∧
    (∀ (op : BinOp) (m : Option Nat) (y : Value), binV op (.map m) y = none) ∧
    (∀ (op : BinOp)  (y : Value), binV op (.nilFunc) y = none) ∧
    (∀ (op : BinOp) (t : Bool) (y : Value), binV op (.bool t) y = none) ∧
    (∀ (op : BinOp) (a : Option Addr) (n c : Nat) (y : Value), binV op (.slice a n c) y = none) ∧
    (∀ (op : BinOp) (f : Fn) (a c : Array Value) (y : Value), binV op (.func f a c) y = none) ∧
    (∀ (b : Bool), unV .not (.bool b) = some (.bool !b)) ∧
    (∀ (k : IntKind) (n : Int), unV .neg (.int k n) = some (.int k (k.wrap (0 - n)))) ∧
    (∀ (a : Addr), nilChk (.pointer (some a)) = some (.pointer (some a))) ∧
    (∀ (f : FuncId) (x y : Array Value), nilChk (.func (.func f) x y) = some (.func (.func f) x y)) ∧
    (∀ (t : TypeId) (v : Value), nilChk (.iface t v) = some (.iface t v)) ∧
    (∀ (n : Nat), Int.toNat (n : Int) = n) :=
  ⟨@isB_i, @isK_i, @isP_i, @isTup_i, @isInt_i, @isSl_i, @isPtr_i, @isCs_i, @isStr_i, @isFn_i, @isIf_i, @rd_i, @br_t, @br_f, @orO_s, @orO_n, @gd_t, @bv_add, @bv_sub, @bv_mul, @bv_eql, @bv_neq, @bv_lss, @bv_leq, @bv_gtr, @bv_geq, @bv_quo, @bv_rem, @bv_shl, @bv_shr, @bv_seq, @bv_sne, @bv_ptr, @bv_if, @bv_map, @bv_nf, @bv_bool, @bv_sl, @bv_fn, @uv_not, @uv_neg, @nc_ptr, @nc_fn, @nc_if, @toN⟩
theorem vq : ((∀ (b : Bool) (K : Bool → Prop), isB (.bool b) K = K b) ∧
    (∀ (k : IntKind) (i : Int) (K : Int → Prop), isK k (.int k i) K = K i) ∧
    (∀ (a : Option Addr) (K : Option Addr → Prop), isP (.pointer a) K = K a) ∧
    (∀ (cs : Array Value) (K : List Value → Prop), isTup (.tuple cs) K = K cs.toList) ∧
    (∀ (k : IntKind) (i : Int) (K : IntKind → Int → Prop), isInt (.int k i) K = K k i) ∧
    (∀ (a : Option Addr) (n c : Nat) (K : Option Addr → Nat → Nat → Prop), isSl (.slice a n c) K = K a n c) ∧
    (∀ (a : Addr) (K : Addr → Prop), isPtr (.pointer (some a)) K = K a) ∧
    (∀ (cs : Array Value) (K : List Value → Prop), isCs (.agg cs) K = K cs.toList) ∧
    (∀ (s : ByteArray) (K : ByteArray → Prop), isStr (.string s) K = K s) ∧
    (∀ (f : Fn) (a c : Array Value) (K : Fn → List Value → List Value → Prop), isFn (.func f a c) K = K f a.toList c.toList) ∧
    (∀ (t : TypeId) (v : Value) (K : TypeId → Value → Prop), isIf (.iface t v) K = K t v) ∧
    (∀ {α : Type} (v : α) (K : α → Prop), rd (some v) K = K v) ∧
    (∀ (A B : Prop), br true A B = A) ∧
    (∀ (A B : Prop), br false A B = B) ∧
    (∀ {α : Type} (a : α) (b : Option α), orO (some a) b = some a) ∧
    (∀ {α : Type} (b : Option α), orO none b = b) ∧
    (gd true = some ()) ∧
    (∀ (k : IntKind) (a b : Int), binV .add (.int k a) (.int k b) = some (.int k (k.wrap (a + b)))) ∧
    (∀ (k : IntKind) (a b : Int), binV .sub (.int k a) (.int k b) = some (.int k (k.wrap (a - b)))) ∧
    (∀ (k : IntKind) (a b : Int), binV .mul (.int k a) (.int k b) = some (.int k (k.wrap (a * b)))) ∧
    (∀ (k : IntKind) (a b : Int), binV .eql (.int k a) (.int k b) = some (.bool (decide (a = b)))) ∧
    (∀ (k : IntKind) (a b : Int), binV .neq (.int k a) (.int k b) = some (.bool (!decide (a = b)))) ∧
    (∀ (k : IntKind) (a b : Int), binV .lss (.int k a) (.int k b) = some (.bool (decide (a < b)))) ∧
    (∀ (k : IntKind) (a b : Int), binV .leq (.int k a) (.int k b) = some (.bool (decide (a ≤ b)))) ∧
    (∀ (k : IntKind) (a b : Int), binV .gtr (.int k a) (.int k b) = some (.bool (decide (b < a)))) ∧
    (∀ (k : IntKind) (a b : Int), binV .geq (.int k a) (.int k b) = some (.bool (decide (b ≤ a)))) ∧
    (∀ (k : IntKind) (a b : Int), binV .quo (.int k a) (.int k b) = dvN b (.int k (k.wrap (a.tdiv b)))) ∧
    (∀ (k : IntKind) (a b : Int), binV .rem (.int k a) (.int k b) = dvN b (.int k (a.tmod b))) ∧
    (∀ (k k' : IntKind) (a : Int) (n : Nat), binV .shl (.int k a) (.int k' n) = some (.int k (k.wrap (a * 2 ^ (min n k.bits))))) ∧
    (∀ (k k' : IntKind) (a : Int) (n : Nat), binV .shr (.int k a) (.int k' n) = some (.int k (a.fdiv (2 ^ (min n k.bits))))) ∧
    (∀ (a b : ByteArray), binV .eql (.string a) (.string b) = some (.bool (decide (a = b)))) ∧
    (∀ (a b : ByteArray), binV .neq (.string a) (.string b) = some (.bool (!decide (a = b)))) ∧
    (∀ (op : BinOp) (a : Option Addr) (y : Value), binV op (.pointer a) y = none) ∧
    (∀ (op : BinOp) (t : TypeId) (v : Value) (y : Value), binV op (.iface t v) y = none) ∧
    (∀ (op : BinOp) (m : Option Nat) (y : Value), binV op (.map m) y = none) ∧
    (∀ (op : BinOp)  (y : Value), binV op (.nilFunc) y = none) ∧
    (∀ (op : BinOp) (t : Bool) (y : Value), binV op (.bool t) y = none) ∧
    (∀ (op : BinOp) (a : Option Addr) (n c : Nat) (y : Value), binV op (.slice a n c) y = none) ∧
    (∀ (op : BinOp) (f : Fn) (a c : Array Value) (y : Value), binV op (.func f a c) y = none) ∧
    (∀ (b : Bool), unV .not (.bool b) = some (.bool !b)) ∧
    (∀ (k : IntKind) (n : Int), unV .neg (.int k n) = some (.int k (k.wrap (0 - n)))) ∧
    (∀ (a : Addr), nilChk (.pointer (some a)) = some (.pointer (some a))) ∧
    (∀ (f : FuncId) (x y : Array Value), nilChk (.func (.func f) x y) = some (.func (.func f) x y)) ∧
    (∀ (t : TypeId) (v : Value), nilChk (.iface t v) = some (.iface t v)) ∧
    (∀ (n : Nat), Int.toNat (n : Int) = n)) ∧ (∀ {α β : Type} (f : α → β) (a : α), Option.map f (some a) = some (f a)) ∧ (∀ n : Nat, n * 1 = n) ∧ (∀ α : Type, (α → True) = True) ∧ (∀ α : Prop, (α → True) = True) ∧ (∀ p : Prop, (True ∧ p) = p) ∧ (∀ p : Prop, (p ∧ True) = p) ∧ (∀ p : Prop, (p ∧ p) = p) :=
  ⟨vcs, fun _ _ => rfl, Nat.mul_one, fun α => implies_true α, fun α => implies_true α, true_and, and_true, and_self⟩
end Go.Proofs.YtipikchkbmgloaaGreatDoor.VC
