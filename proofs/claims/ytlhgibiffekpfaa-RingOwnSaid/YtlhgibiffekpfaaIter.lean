/- A range over a map with whole numbers as keys: what is still to come.  Conditions: none (a general text, over any program). -/
import Derived.Test.YtlhgibiffekpfaaMaps
import Derived.Maps.Range
namespace Go.Proofs.Ytlhgibiffekpfaa.VC
set_option linter.unusedSimpArgs false
set_option linter.unusedVariables false
open Go Go.RowKit Go.MapKept Go.ChangeMaps
def keyI (v : Value) : Int := match v with | .int _ n => n | _ => 0
/-- Block r ranges over the map at b; the keys of todo are still to come. -/
def IterAt {α : Type} (enc : α → Value) (q : IntKind) (w : World) (b r : Nat) (l : List (Int × α)) (todo : List Int) : Prop :=
  ∃ es clock since seen c0, w.heap[b]? = some (.map es clock) ∧ Stamped es clock ∧ es.toList.map kvOf = l.map (kvI enc q) ∧ w.heap[r]? = some (.mapIter (some b) since seen c0) ∧
    (∀ x ∈ es.toList, x.born < since) ∧ since ≤ c0 ∧ since ≤ clock ∧ todo = (leftOf es seen).toList.map fun e => keyI e.key
section
variable {α : Type} {enc : α → Value} {P : Program} {w : World} {t kt et : TypeId} {q : IntKind} {b r : Nat} {l : List (Int × α)} {todo : List Int}
theorem IterAt.map (h : IterAt enc q w b r l todo) : MapAt enc q w b l := by
  obtain ⟨es, clock, since, seen, c0, h1, h2, h3, _⟩ := h
  exact ⟨es, clock, h1, h2, h3⟩
theorem IterAt.keep {w' : World} {S : Nat → Prop} (h : IterAt enc q w b r l todo) (f : Fm S w w') (hb : ¬ S b) (hr : ¬ S r) : IterAt enc q w' b r l todo := by
  obtain ⟨es, clock, since, seen, c0, h1, h2, h3, h4, h5⟩ := h
  exact ⟨es, clock, since, seen, c0, f.keep h1 hb, h2, h3, f.keep h4 hr, h5⟩
theorem IterAt.left (h : IterAt enc q w b r l todo) : w.rangeLeft b r = todo.length := by
  obtain ⟨es, clock, since, seen, c0, h1, h2, h3, h4, h5, h6, h7, rfl⟩ := h
  simp [World.rangeLeft, h1, h4]
theorem IterAt.ne (h : IterAt enc q w b r l todo) : r ≠ b := by
  obtain ⟨es, clock, since, seen, c0, h1, h2, h3, h4, _⟩ := h
  rintro rfl
  rw [h1] at h4; cases h4
theorem IterAt.lt (h : IterAt enc q w b r l todo) : b < w.heap.size ∧ r < w.heap.size := by
  obtain ⟨es, clock, since, seen, c0, h1, h2, h3, h4, _⟩ := h
  exact ⟨lt_of_blk h1, lt_of_blk h4⟩
theorem getM_at {k : Int} {v : α} : ∀ {l : List (Int × α)}, (l.map (·.1)).Nodup → (k, v) ∈ l → getM k l = some v := by
  intro l
  induction l with
  | nil => intro _ h; cases h
  | cons p l ih =>
    intro hn hm
    simp only [List.map_cons, List.nodup_cons] at hn
    rcases List.mem_cons.1 hm with rfl | hm
    · simp [getM]
    · have : k ≠ p.1 := fun e => hn.1 (e ▸ List.mem_map.2 ⟨_, hm, rfl⟩)
      simp only [getM, if_neg this]
      exact ih hn.2 hm
theorem mem_of_es {es : Array MapEntry} (hl : es.toList.map kvOf = l.map (kvI enc q)) {e : MapEntry} (he : e ∈ es.toList) : ∃ p ∈ l, e.key = .int q p.1 ∧ e.val = enc p.2 := by
  have : kvOf e ∈ l.map (kvI enc q) := by rw [← hl]; exact List.mem_map_of_mem he
  obtain ⟨p, hp, h⟩ := List.mem_map.1 this
  exact ⟨p, hp, (congrArg Prod.fst h).symm, (congrArg Prod.snd h).symm⟩
theorem range_ok {KK : Value → World → Prop} (ht : (row P t).k = .map kt et) (h : MapAt enc q w b l)
    (kk : ∀ w', IterAt enc q w' b w.heap.size l (l.map (·.1)) → w'.heap.size = w.heap.size + 1 → Fm none' w w' → KK (.pointer (some ⟨w.heap.size, 0, none⟩)) w') : runs P (Instr.range t (.map (some b))) w KK := by
  obtain ⟨es, clock, hb, hs, hl⟩ := h
  have hlt := lt_of_blk hb
  refine ⟨_, _, run_range_map w t kt et b es clock (map_of_row ht) hb, kk _ ⟨es, clock, clock, #[], clock, ((MapKept.heap_alloc w _).2 b hlt).trans hb, hs, hl, (MapKept.heap_alloc w _).1, hs.1, Nat.le_refl _, Nat.le_refl _, ?_⟩ (by simp) (Fm.alloc w _)⟩
  have := congrArg (List.map fun p : Value × Value => keyI p.1) hl
  simp only [List.map_map] at this
  simp only [leftOf]
  rw [show (fun e : MapEntry => !(#[] : Array Nat).contains e.born) = fun _ => true by funext e; simp]
  rw [Array.toList_filter, List.filter_eq_self.2 (fun _ _ => rfl)]
  calc l.map (·.1) = l.map ((fun p : Value × Value => keyI p.1) ∘ kvI enc q) := by congr 1
    _ = es.toList.map ((fun p : Value × Value => keyI p.1) ∘ kvOf) := this.symm
    _ = _ := by congr 1
theorem filt_push {es : Array MapEntry} {seen : Array Nat} {clock : Nat} (hs : Stamped es clock) (hk : ∀ x ∈ es.toList, ∃ n, x.key = .int q n) {e : MapEntry} (he : e ∈ es.toList) :
    (leftOf es (seen.push e.born)).toList.map (fun e => keyI e.key) = ((leftOf es seen).toList.map fun e => keyI e.key).filter (fun k => decide (k ≠ keyI e.key)) := by
  have hst := (stamped_iff es clock).1 hs
  simp only [leftOf, Array.toList_filter, List.filter_map, List.filter_filter]
  congr 1
  refine List.filter_congr fun x hx => ?_
  have hxe : (x.born = e.born) ↔ keyI x.key = keyI e.key := by
    constructor
    · intro hb
      rw [born_inj hst.2.1 hx he hb]
    · intro hkk
      obtain ⟨n, hn⟩ := hk x hx
      obtain ⟨n', hn'⟩ := hk e he
      rw [hn, hn'] at hkk
      have : x.key = e.key := by rw [hn, hn']; simp only [keyI] at hkk; rw [hkk]
      exact congrArg _ (entry_eq_of_key hst.2.2 hx he this)
  simp only [Array.contains_push, Bool.not_or, Function.comp_apply, ne_eq, decide_not, Bool.and_comm]
  congr 1
  rw [Bool.beq_eq_decide_eq]
  exact congrArg _ (decide_eq_decide.2 hxe)
theorem next_ok {ty : TypeId} {KK : Value → World → Prop} (h : IterAt enc q w b r l todo) (h0 : todo = [] → KK (.tuple #[.bool false]) w)
    (h1 : ∀ k v w', k ∈ todo → (k, v) ∈ l → IterAt enc q w' b r l (todo.filter (fun x => decide (x ≠ k))) → w'.rangeLeft b r < w.rangeLeft b r → Fm (fun i => i = r) w w' →
      (∀ KE : Value → World → Prop, KE (.tuple #[.int q k, enc v]) w' → runs P (Instr.entry (.pointer (some ⟨r, 0, none⟩))) w' KE) → KK (.tuple #[.bool true, .int q k, enc v]) w') :
    runs P (Instr.next (.pointer (some ⟨r, 0, none⟩)) false ty) w KK := by
  have hne := h.ne
  have hleft := h.left
  obtain ⟨es, clock, since, seen, c0, hb, hs, hl, hr, hold, hsc, hsk, rfl⟩ := h
  rcases run_next_at (P := P) w ty r b since c0 seen es clock hr hb hold hsc with ⟨hz, hrun⟩ | ⟨e, he, w1, hal, hrun⟩
  · refine ⟨_, _, hrun, h0 ?_⟩
    rw [List.map_eq_nil_iff, ← List.length_eq_zero_iff]
    simpa using hz
  · have hem : e ∈ es.toList := by simp only [leftOf, Array.toList_filter, List.mem_filter] at he; exact he.1
    obtain ⟨p, hp, hk, hv⟩ := mem_of_es hl hem
    have hr1 : w1.heap[r]? = some (.mapIter (some b) since seen c0) := by rcases hal with rfl | rfl <;> exact hr
    have hb1 : w1.heap[b]? = some (.map es clock) := by rcases hal with rfl | rfl <;> exact hb
    have hset := heap_set (o' := .mapIter (some b) since (seen.push e.born) clock) hr1
    have hb' : (setBlock w1 r (.mapIter (some b) since (seen.push e.born) clock)).heap[b]? = some (.map es clock) := (hset.2 b (fun e1 => hne e1.symm)).trans hb1
    have hkm : p.1 ∈ (leftOf es seen).toList.map fun e => keyI e.key := List.mem_map.2 ⟨e, he, by rw [hk]; rfl⟩
    have hit : IterAt enc q (setBlock w1 r (.mapIter (some b) since (seen.push e.born) clock)) b r l (((leftOf es seen).toList.map fun e => keyI e.key).filter (fun x => decide (x ≠ p.1))) := by
      refine ⟨es, clock, since, seen.push e.born, clock, hb', hs, hl, hset.1, hold, hsk, hsk, ?_⟩
      rw [filt_push (q := q) hs (fun x hx => by obtain ⟨p, _, h, _⟩ := mem_of_es hl hx; exact ⟨_, h⟩) hem, hk]
      rfl
    refine ⟨_, _, hrun, ?_⟩
    rw [hk, hv]
    refine h1 p.1 p.2 _ hkm hp hit ?_ ?_ ?_
    · rw [hit.left, hleft]
      refine List.length_filter_lt_length_iff_exists.2 ⟨p.1, hkm, by simp⟩
    · rcases hal with rfl | rfl <;> exact ⟨rfl, rfl, rfl, by simp [setBlock], fun i _ hi => hset.2 i hi⟩
    · intro KE hKE
      refine ⟨_, _, run_entry_at _ r b since seen es clock e hset.1 hb' hem ((stamped_iff es clock).1 hs).2.1, ?_⟩
      rw [hk, hv]
      exact hKE
theorem delete_it {k : Int} {ty : TypeId} {KK : Value → World → Prop} (ht : (row P t).k = .map kt et) (hk : (row P kt).k = .int q) (h : IterAt enc q w b r l todo) (hkt : k ∉ todo)
    (kk : ∀ w', IterAt enc q w' b r (delM k l) todo → Fm (fun i => i = b) w w' → KK (.tuple #[]) w') : runs P (Builtin.delete_ #[t, kt] ty #[.map (some b), .int q k]) w KK := by
  have hne := h.ne
  obtain ⟨es, clock, since, seen, c0, hb, hs, hl, hr, hold, hsc, hsk, rfl⟩ := h
  have hik : IsKey (.int q) (.int q k) := rfl
  have hf := run_findKey (P := P) (w := w) (int_of_row hk) (findNow_at (k := k) (i := 0) hl)
  have hset : ∀ o, ({ w with heap := w.heap.setIfInBounds b o } : World).heap[r]? = some (.mapIter (some b) since seen c0) := fun o => (heap_set (o' := o) hb).2 r hne ▸ hr
  cases hfd : fnd k l 0 with
  | none =>
    rw [hfd] at hf
    obtain ⟨-, -, h3, -⟩ := fnd_none hfd
    refine ⟨_, _, ?_, kk _ ⟨es, clock, since, seen, c0, heap_setObj hb, hs, by rw [h3]; exact hl, hset _, hold, hsc, hsk, rfl⟩ (Fm.setObj w b _)⟩
    simp [Builtin.delete_, run_underlying (map_of_row ht), MapKept.run_getObj_map hb, run_checkKey (int_of_row hk) hik, hf, MapKept.run_setObj_map _ hb, Result.andThen]
  | some x =>
    obtain ⟨j, v0⟩ := x
    rw [hfd] at hf
    obtain ⟨n, rfl, hln, -, -, h3⟩ := fnd_some hfd
    have hlen : es.size = l.length := by have := congrArg List.length hl; simpa using this
    have hlt : n < l.length := (List.getElem?_eq_some_iff.1 hln).1
    have hel : (es.eraseIdxIfInBounds (0 + n)).toList = es.toList.eraseIdx n := by
      unfold Array.eraseIdxIfInBounds
      rw [dif_pos (by omega), Array.toList_eraseIdx, Nat.zero_add]
    have hen : (es.toList.map kvOf)[n]? = some (.int q k, enc v0) := by rw [hl]; simp [hln, kvI]
    rw [List.getElem?_map, Option.map_eq_some_iff] at hen
    obtain ⟨e, he, hke⟩ := hen
    have hkey : e.key = .int q k := congrArg Prod.fst hke
    have hseen : (!seen.contains e.born) = false := by
      cases hc : (!seen.contains e.born) with
      | false => rfl
      | true =>
        refine absurd (List.mem_map.2 ⟨e, ?_, by rw [hkey]; rfl⟩) hkt
        simp only [leftOf, Array.toList_filter, List.mem_filter]
        exact ⟨List.mem_of_getElem? he, hc⟩
    refine ⟨_, _, ?_, kk _ ⟨es.eraseIdxIfInBounds (0 + n), clock, since, seen, c0, heap_setObj hb, stamped_erase hs _, ?_, hset _, ?_, hsc, hsk, ?_⟩ (Fm.setObj w b _)⟩
    · simp [Builtin.delete_, run_underlying (map_of_row ht), MapKept.run_getObj_map hb, run_checkKey (int_of_row hk) hik, hf, MapKept.run_setObj_map _ hb, Result.andThen]
    · rw [h3, hel]
      simp only [List.eraseIdx_eq_take_drop_succ, List.map_append, List.map_take, List.map_drop, hl]
    · intro x hx
      rw [hel] at hx
      exact hold x ((List.eraseIdx_sublist _ _).subset hx)
    · simp only [leftOf, Array.toList_filter, hel]
      congr 1
      have hn : n < es.toList.length := by simp; omega
      have he2 : es.toList[n] = e := by have := List.getElem?_eq_getElem hn; rw [this] at he; exact Option.some.inj he
      rw [List.eraseIdx_eq_take_drop_succ, List.filter_append]
      conv => lhs; rw [← List.take_append_drop n es.toList, List.drop_eq_getElem_cons hn, List.filter_append, he2]
      rw [List.filter_cons_of_neg (by rw [hseen]; simp)]
end
end Go.Proofs.Ytlhgibiffekpfaa.VC
