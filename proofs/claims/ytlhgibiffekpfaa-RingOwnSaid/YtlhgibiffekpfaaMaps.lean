/- Maps with whole numbers as keys, as lists of pairs: what lookup, store, delete and len do.  Conditions: none (a general text, over any program). -/
import Derived.Test.YtlhgibiffekpfaaLib
import Derived.MapKept
namespace Go.Proofs.Ytlhgibiffekpfaa.VC
set_option linter.unusedSimpArgs false
set_option linter.unusedVariables false
open Go Go.RowKit Go.MapKept

def kvOf (e : MapEntry) : Value × Value := (e.key, e.val)
def kvI {α : Type} (enc : α → Value) (q : IntKind) (p : Int × α) : Value × Value := (.int q p.1, enc p.2)
/-- Block b is a map with these entries, the oldest first. -/
def MapAt {α : Type} (enc : α → Value) (q : IntKind) (w : World) (b : Nat) (l : List (Int × α)) : Prop :=
  ∃ es clock, w.heap[b]? = some (.map es clock) ∧ Stamped es clock ∧ es.toList.map kvOf = l.map (kvI enc q)
def getM {α : Type} (k : Int) : List (Int × α) → Option α
  | [] => none
  | p :: l => if k = p.1 then some p.2 else getM k l
def setM {α : Type} (k : Int) (v : α) : List (Int × α) → List (Int × α)
  | [] => [(k, v)]
  | p :: l => if k = p.1 then (k, v) :: l else p :: setM k v l
def delM {α : Type} (k : Int) : List (Int × α) → List (Int × α)
  | [] => []
  | p :: l => if k = p.1 then l else p :: delM k l
def fnd {α : Type} (k : Int) : List (Int × α) → Nat → Option (Nat × α)
  | [], _ => none
  | p :: l, i => if k = p.1 then some (i, p.2) else fnd k l (i + 1)
theorem findNow_at {α : Type} {enc : α → Value} {q : IntKind} {k : Int} : ∀ {es : List MapEntry} {l : List (Int × α)} {i : Nat}, es.map kvOf = l.map (kvI enc q) → Instr.findNow (.int q) (.int q k) es i = some ((fnd k l i).map fun x => (x.1, enc x.2)) := by
  intro es
  induction es with
  | nil => intro l i h; cases l; rfl; simp at h
  | cons e es ih =>
    intro l i h
    cases l with
    | nil => simp at h
    | cons p l =>
      simp only [List.map_cons, List.cons.injEq] at h
      have hk : e.key = .int q p.1 := congrArg Prod.fst h.1
      have hv : e.val = enc p.2 := congrArg Prod.snd h.1
      simp only [Instr.findNow, hk, Instr.sameNow, if_true, fnd]
      by_cases hkp : k = p.1
      · simp [hkp, hv]
      · rw [show (k == p.1) = false by simpa using hkp, if_neg hkp]
        exact ih h.2
theorem fnd_none {α : Type} {k : Int} : ∀ {l : List (Int × α)} {i : Nat}, fnd k l i = none → getM k l = none ∧ (∀ v, setM k v l = l ++ [(k, v)]) ∧ delM k l = l ∧ ∀ p ∈ l, p.1 ≠ k := by
  intro l
  induction l with
  | nil => intro i _; exact ⟨rfl, fun _ => rfl, rfl, by simp⟩
  | cons p l ih =>
    intro i h
    simp only [fnd] at h
    split at h
    · cases h
    · rename_i hk
      obtain ⟨h1, h2, h3, h4⟩ := ih h
      refine ⟨by simp [getM, hk, h1], fun v => by simp [setM, hk, h2], by simp [delM, hk, h3], ?_⟩
      intro x hx
      rcases List.mem_cons.1 hx with rfl | hx
      · exact fun e => hk e.symm
      · exact h4 x hx
theorem fnd_some {α : Type} {k : Int} {j : Nat} {v : α} : ∀ {l : List (Int × α)} {i : Nat}, fnd k l i = some (j, v) → ∃ n, j = i + n ∧ l[n]? = some (k, v) ∧ getM k l = some v ∧ (∀ v', setM k v' l = l.set n (k, v')) ∧ delM k l = l.eraseIdx n := by
  intro l
  induction l with
  | nil => intro i h; cases h
  | cons p l ih =>
    intro i h
    simp only [fnd] at h
    split at h
    · rename_i hk
      cases h
      exact ⟨0, rfl, by simp [hk], by simp [getM, hk], fun v' => by simp [setM, hk], by simp [delM, hk]⟩
    · rename_i hk
      obtain ⟨n, h1, h2, h3, h4, h5⟩ := ih h
      exact ⟨n + 1, by omega, by simpa using h2, by simp [getM, hk, h3], fun v' => by simp [setM, hk, h4], by simp [delM, hk, h5]⟩

theorem map_of_row {P : Program} {t k e : TypeId} (h : (row P t).k = .map k e) : P.underlying t = some (.map k e) := by
  obtain ⟨i, d, hi, hd, hr⟩ := row_spec (P := P) (t := t) (by rw [h]; simp)
  rw [hr] at h
  cases d <;> simp [kOf] at h
  obtain ⟨rfl, rfl⟩ := h
  exact hd
theorem int_of_row {P : Program} {t : TypeId} {q : IntKind} (h : (row P t).k = .int q) : P.underlying t = some (.int q) := by
  obtain ⟨i, d, hi, hd, hr⟩ := row_spec (P := P) (t := t) (by rw [h]; simp)
  rw [hr] at h
  cases d <;> simp [kOf] at h
  subst h
  exact hd
theorem zero_run {P : Program} {e : TypeId} {z : Value} (h : (row P e).zero = some z) (w : World) : (zeroValue e).run P w = .ok z w := by
  obtain ⟨i, d, hi, _, hz, hr⟩ := row_zero (P := P) (t := e) (z := z) h
  exact run_zero hi hz w

section
variable {α : Type} {enc : α → Value} {P : Program} {w : World} {t kt et : TypeId} {q : IntKind} {z : α} {b : Nat} {l : List (Int × α)}
theorem lookup_ok {k : Int} {KK : Value → World → Prop} (ht : (row P t).k = .map kt et) (hk : (row P kt).k = .int q) (hz : (row P et).zero = some (enc z)) (h : MapAt enc q w b l)
    (kk : KK (.tuple #[enc ((getM k l).getD z), .bool (getM k l).isSome]) w) : runs P (Instr.lookup t (.map (some b)) (.int q k) true) w KK := by
  obtain ⟨es, clock, hb, hs, hl⟩ := h
  refine ⟨_, _, ?_, kk⟩
  have hf := run_findKey (P := P) (w := w) (int_of_row hk) (findNow_at (k := k) (i := 0) hl)
  cases hfd : fnd k l 0 with
  | none =>
    rw [hfd] at hf
    simp [Instr.lookup, run_underlying (map_of_row ht), MapKept.run_getObj_map hb, run_checkKey (int_of_row hk) (show IsKey (.int q) (.int q k) from rfl), hf, zero_run hz, Result.andThen, (fnd_none hfd).1]
  | some x =>
    obtain ⟨j, v⟩ := x
    rw [hfd] at hf
    obtain ⟨n, -, -, h3, -⟩ := fnd_some hfd
    simp [Instr.lookup, run_underlying (map_of_row ht), MapKept.run_getObj_map hb, run_checkKey (int_of_row hk) (show IsKey (.int q) (.int q k) from rfl), hf, Result.andThen, h3]
theorem lookup_1 {k : Int} {KK : Value → World → Prop} (ht : (row P t).k = .map kt et) (hk : (row P kt).k = .int q) (hz : (row P et).zero = some (enc z)) (h : MapAt enc q w b l)
    (kk : KK (enc ((getM k l).getD z)) w) : runs P (Instr.lookup t (.map (some b)) (.int q k) false) w KK := by
  obtain ⟨es, clock, hb, hs, hl⟩ := h
  refine ⟨_, _, ?_, kk⟩
  have hf := run_findKey (P := P) (w := w) (int_of_row hk) (findNow_at (k := k) (i := 0) hl)
  cases hfd : fnd k l 0 with
  | none =>
    rw [hfd] at hf
    simp [Instr.lookup, run_underlying (map_of_row ht), MapKept.run_getObj_map hb, run_checkKey (int_of_row hk) (show IsKey (.int q) (.int q k) from rfl), hf, zero_run hz, Result.andThen, (fnd_none hfd).1]
  | some x =>
    obtain ⟨j, v⟩ := x
    rw [hfd] at hf
    obtain ⟨n, -, -, h3, -⟩ := fnd_some hfd
    simp [Instr.lookup, run_underlying (map_of_row ht), MapKept.run_getObj_map hb, run_checkKey (int_of_row hk) (show IsKey (.int q) (.int q k) from rfl), hf, Result.andThen, h3]
theorem Fm.setObj (w : World) (b : Nat) (o : Obj) : Fm (fun i => i = b) w { w with heap := w.heap.setIfInBounds b o } :=
  ⟨rfl, rfl, rfl, by simp, fun i _ hn => by show (w.heap.setIfInBounds b o)[i]? = _; rw [Array.getElem?_setIfInBounds_ne (fun e => hn e.symm)]⟩
theorem heap_setObj {o o' : Obj} (h : w.heap[b]? = some o) : ({ w with heap := w.heap.setIfInBounds b o' } : World).heap[b]? = some o' := by
  have := (Array.getElem?_eq_some_iff.1 h).1
  simp [this]
theorem update_ok {k : Int} {v : α} {KK : World → Prop} (ht : (row P t).k = .map kt et) (hk : (row P kt).k = .int q) (h : MapAt enc q w b l)
    (kk : ∀ w', MapAt enc q w' b (setM k v l) → Fm (fun i => i = b) w w' → KK w') : runsU P (Instr.mapUpdate t (.map (some b)) (.int q k) (enc v)) w KK := by
  obtain ⟨es, clock, hb, hs, hl⟩ := h
  have hik : IsKey (.int q) (.int q k) := rfl
  have hf := run_findKey (P := P) (w := w) (int_of_row hk) (findNow_at (k := k) (i := 0) hl)
  cases hfd : fnd k l 0 with
  | none =>
    rw [hfd] at hf
    obtain ⟨-, h2, -, h4⟩ := fnd_none hfd
    refine ⟨_, ?_, kk _ ⟨es.push ⟨.int q k, enc v, clock⟩, clock + 1, heap_setObj hb, ?_, ?_⟩ (Fm.setObj w b _)⟩
    · simp [Instr.mapUpdate, run_underlying (map_of_row ht), MapKept.run_getObj_map hb, run_checkKey (int_of_row hk) hik, hf, MapKept.run_setObj_map _ hb, Result.andThen]
    · refine stamped_push hs fun x hx e => ?_
      have : kvOf x ∈ l.map (kvI enc q) := by rw [← hl]; exact List.mem_map_of_mem hx
      obtain ⟨p, hp, he⟩ := List.mem_map.1 this
      have h5 := congrArg Prod.fst he
      simp only [kvI, kvOf] at h5
      rw [e] at h5
      cases h5
      exact h4 p hp rfl
    · rw [h2, Array.toList_push, List.map_append, List.map_append, hl]
      rfl
  | some x =>
    obtain ⟨j, v0⟩ := x
    rw [hfd] at hf
    obtain ⟨n, rfl, hln, -, h3, -⟩ := fnd_some hfd
    have hen : (es.toList.map kvOf)[n]? = some (.int q k, enc v0) := by rw [hl]; simp [hln, kvI]
    rw [List.getElem?_map, Option.map_eq_some_iff] at hen
    obtain ⟨e, he, hke⟩ := hen
    have hkey : e.key = .int q k := congrArg Prod.fst hke
    have he' : es[0 + n]? = some e := by simpa using he
    have hes : es[n]? = some e := by simpa using he
    refine ⟨_, ?_, kk _ ⟨es.modify (0 + n) (fun e => { e with key := .int q k, val := enc v }), clock, heap_setObj hb, ?_, ?_⟩ (Fm.setObj w b _)⟩
    · have hks : (Instr.keyThatStays (.int q k) (.int q k)).run P w = .ok (.int q k) w := run_keyThatStays hik
      simp [Instr.mapUpdate, run_underlying (map_of_row ht), MapKept.run_getObj_map hb, run_checkKey (int_of_row hk) hik, hf, MapKept.run_setObj_map _ hb, Result.andThen, hes, hkey, hks]
    · refine stamped_modify hs _ _ (fun _ _ => rfl) (fun x hx hxe => ?_)
      rw [he'] at hxe
      cases hxe
      exact hkey.symm
    · rw [h3]
      refine List.ext_getElem? fun i => ?_
      have hi := congrArg (fun l => l[i]?) hl
      simp only [List.getElem?_map] at hi
      simp only [List.getElem?_map, Array.getElem?_toList, Array.getElem?_modify, Nat.zero_add, List.getElem?_set]
      by_cases hin : n = i
      · subst hin
        have hlt : n < l.length := (List.getElem?_eq_some_iff.1 hln).1
        have he2 : es[n]? = some e := by simpa using he
        simp [he2, hlt, kvOf, kvI]
      · simp only [if_neg hin]
        simpa using hi
theorem delete_ok {k : Int} {ty : TypeId} {KK : Value → World → Prop} (ht : (row P t).k = .map kt et) (hk : (row P kt).k = .int q) (h : MapAt enc q w b l)
    (kk : ∀ w', MapAt enc q w' b (delM k l) → Fm (fun i => i = b) w w' → KK (.tuple #[]) w') : runs P (Builtin.delete_ #[t, kt] ty #[.map (some b), .int q k]) w KK := by
  obtain ⟨es, clock, hb, hs, hl⟩ := h
  have hik : IsKey (.int q) (.int q k) := rfl
  have hf := run_findKey (P := P) (w := w) (int_of_row hk) (findNow_at (k := k) (i := 0) hl)
  cases hfd : fnd k l 0 with
  | none =>
    rw [hfd] at hf
    obtain ⟨-, -, h3, -⟩ := fnd_none hfd
    refine ⟨_, _, ?_, kk _ ⟨es, clock, heap_setObj hb, hs, by rw [h3]; exact hl⟩ (Fm.setObj w b _)⟩
    simp [Builtin.delete_, run_underlying (map_of_row ht), MapKept.run_getObj_map hb, run_checkKey (int_of_row hk) hik, hf, MapKept.run_setObj_map _ hb, Result.andThen]
  | some x =>
    obtain ⟨j, v0⟩ := x
    rw [hfd] at hf
    obtain ⟨n, rfl, hln, -, -, h3⟩ := fnd_some hfd
    have hlen : es.size = l.length := by have := congrArg List.length hl; simpa using this
    have hlt : n < l.length := (List.getElem?_eq_some_iff.1 hln).1
    refine ⟨_, _, ?_, kk _ ⟨es.eraseIdxIfInBounds (0 + n), clock, heap_setObj hb, stamped_erase hs _, ?_⟩ (Fm.setObj w b _)⟩
    · simp [Builtin.delete_, run_underlying (map_of_row ht), MapKept.run_getObj_map hb, run_checkKey (int_of_row hk) hik, hf, MapKept.run_setObj_map _ hb, Result.andThen]
    · rw [h3, Nat.zero_add]
      unfold Array.eraseIdxIfInBounds
      rw [dif_pos (by omega), Array.toList_eraseIdx]
      simp only [List.eraseIdx_eq_take_drop_succ, List.map_append, List.map_take, List.map_drop, hl]
theorem lenM_ok {ty : TypeId} {KK : Value → World → Prop} (ht : (row P t).k = .map kt et) (h : MapAt enc q w b l) (kk : KK (.int .i64 l.length) w) : runs P (Builtin.len_ #[t] ty #[.map (some b)]) w KK := by
  obtain ⟨es, clock, hb, hs, hl⟩ := h
  have hlen : es.size = l.length := by have := congrArg List.length hl; simpa using this
  refine ⟨_, _, ?_, kk⟩
  simp [Builtin.len_, run_underlying (map_of_row ht), MapKept.run_getObj_map hb, Result.andThen, goInt, hlen]
theorem makeM {KK : Nat → World → Prop} (kk : ∀ w', MapAt enc q w' w.heap.size [] → w'.heap.size = w.heap.size + 1 → Fm none' w w' → KK w.heap.size w') : allocC w (.map #[] 0) KK :=
  allocC_of fun w' hb hs hf => kk w' ⟨#[], 0, hb, stamped_empty 0, rfl⟩ hs hf
theorem MapAt.keep {w' : World} {S : Nat → Prop} (h : MapAt enc q w b l) (f : Fm S w w') (hb : ¬ S b) : MapAt enc q w' b l := by
  obtain ⟨es, clock, h1, h2⟩ := h
  exact ⟨es, clock, f.keep h1 hb, h2⟩
theorem MapAt.nodup (h : MapAt enc q w b l) : (l.map (·.1)).Nodup := by
  obtain ⟨es, clock, h1, ⟨_, _, h2⟩, h3⟩ := h
  have : es.toList.map (·.key) = (l.map (·.1)).map (Value.int q) := by
    have := congrArg (List.map Prod.fst) h3
    simpa [kvOf, kvI, Function.comp_def] using this
  rw [this] at h2
  rw [List.Nodup, List.pairwise_map] at h2
  exact h2.imp fun hne e => hne (congrArg _ e)
end
theorem getM_mem {α : Type} {k : Int} : ∀ {l : List (Int × α)}, getM k l = none ↔ k ∉ l.map (·.1) := by
  intro l
  induction l with
  | nil => simp [getM]
  | cons p l ih =>
    simp only [getM]
    split
    · rename_i h; simp [h]
    · rename_i h; rw [ih]; simp [h]
theorem getM_del {α : Type} {k : Int} : ∀ {l : List (Int × α)}, (l.map (·.1)).Nodup → getM k (delM k l) = none := by
  intro l
  induction l with
  | nil => intro _; rfl
  | cons p l ih =>
    intro hn
    simp only [List.map_cons, List.nodup_cons] at hn
    simp only [delM]
    split
    · rename_i h; rw [getM_mem, h]; exact hn.1
    · rename_i h; simp only [getM, if_neg h]; exact ih hn.2
theorem delM_none {α : Type} {k : Int} : ∀ {l : List (Int × α)}, getM k l = none → delM k l = l := by
  intro l
  induction l with
  | nil => intro _; rfl
  | cons p l ih =>
    intro h
    simp only [getM] at h
    split at h
    · cases h
    · rename_i hk; simp only [delM, if_neg hk, ih h]
theorem setM_none {α : Type} {k : Int} {v : α} : ∀ {l : List (Int × α)}, getM k l = none → setM k v l = l ++ [(k, v)] := by
  intro l
  induction l with
  | nil => intro _; rfl
  | cons p l ih =>
    intro h
    simp only [getM] at h
    split at h
    · cases h
    · rename_i hk; simp only [setM, if_neg hk, ih h, List.cons_append]
end Go.Proofs.Ytlhgibiffekpfaa.VC
