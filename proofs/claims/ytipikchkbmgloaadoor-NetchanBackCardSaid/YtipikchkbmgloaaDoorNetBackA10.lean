/- What NetBack needs, part 10 of 12: Row.  Conditions: as each part says. -/
import Derived.ProofKit
import Derived.OpenShut
import Derived.SizedLaws
import Derived.JoinedCond
import Derived.Test.YtipikchkbmgloaaDoorNetBackA9
namespace Go.Proofs.YtipikchkbmgloaaDoor.VC
set_option linter.unusedSimpArgs false
set_option linter.unusedVariables false
open Go Go.RowKit Go.ChangeShapes

theorem trodAll_stays {H : Type} {enc : TypeId × Value → H} {P : Program} {W W' : World} {sp : Nat → Bool} (hl : laidOutB P = true) : ∀ {ts : List TypeId} {vs : List Value} {ds : List (DataW H)} {ps : List MemPlace},
    (ts.all fun t => P.readableRec t && decide (t < P.types.size)) = true → DataW.TrodAll enc P W 0 (fun _ => true) true ts vs ds ps → (∀ p ∈ ps, W.sameAt W' p) → (∀ p ∈ ps, sp p.block = true) → DataW.TrodAll enc P W' 0 sp true ts vs ds ps
  | [], [], [], _, _, h, _, _ => h
  | t :: ts, v :: vs, d :: ds, ps, ht, ⟨p, q, h1, h2, e⟩, hsame, hs => by
    simp only [List.all_cons, Bool.and_eq_true, decide_eq_true_eq] at ht
    subst e
    refine ⟨p, q, WideElems.Trod_stays hl ht.1.1 ht.1.2 h1 (fun x hx => hsame x (List.mem_append_left _ hx)) (fun x hx => hs x (List.mem_append_left _ hx)), trodAll_stays hl ?_ h2 (fun x hx => hsame x (List.mem_append_right _ hx)) (fun x hx => hs x (List.mem_append_right _ hx)), rfl⟩
    simpa [List.all_eq_true] using ht.2
  | [], [], _ :: _, _, _, h, _, _ => h.elim
  | [], _ :: _, _, _, _, h, _, _ => h.elim
  | _ :: _, [], _, _, _, h, _, _ => h.elim
  | _ :: _, _ :: _, [], _, _, h, _, _ => h.elim

theorem trodAll_length {H : Type} {enc : TypeId × Value → H} {P : Program} {W : World} {sp : Nat → Bool} : ∀ {ts : List TypeId} {vs : List Value} {ds : List (DataW H)} {ps : List MemPlace}, DataW.TrodAll enc P W 0 sp true ts vs ds ps → ds.length = ts.length
  | [], [], [], _, _ => rfl
  | _ :: _, _ :: _, _ :: _, _, ⟨_, _, _, h2, _⟩ => by simp [trodAll_length h2]
  | [], [], _ :: _, _, h => h.elim
  | [], _ :: _, _, _, h => h.elim
  | _ :: _, [], _, _, h => h.elim
  | _ :: _, _ :: _, [], _, h => h.elim

def Gives (P : Program) (f : FuncId) (fn : Func) (k : (H : Type) → List (DataW H) → Prop) : Prop :=
  ∀ (H : Type) (enc : TypeId × Value → H) (W : World) (base : Nat) (args : Array Value) (ds : List (DataW H)) (ps : List MemPlace),
    DataW.TrodAll enc P W 0 (fun _ => true) true fn.params.toList args.toList ds ps → (∀ (j : Nat) t v, fn.params[j]? = some t → args[j]? = some v → Value.okWide P W .any base t v) →
    k H ds → (∀ p ∈ ps, p.block < W.heap.size) →
    callV P f args.toList W fun v w' => v = .bool true ∧ Fm none' W w'

def Fits (P : Program) (fn : Func) (H : Type) (ds : List (DataW H)) : Prop := (DataW.weightsEach P fn.params.toList ds).all (· ≤ reachBytes) = true
theorem fits_of {P : Program} {fn : Func} {s : ChangeSpec} {H : Type} {ds gs : List (DataW H)} (hvars : s.vars = []) (hg : gs = []) (h : (DataW.weightsEach P (fn.params.toList ++ s.plain.varTypes P) (ds ++ gs)).all (· ≤ reachBytes) = true) : Fits P fn H (ds ++ gs) := by
  subst hg
  have : s.plain.varTypes P = [] := by simp [DataSpec.varTypes, ChangeSpec.plain, hvars]
  rw [this, List.append_nil fn.params.toList] at h
  exact h
theorem gs_nil {P : Program} {fn : Func} {s : ChangeSpec} {apart : Bool} {H : Type} {enc : TypeId × Value → H} {W : World} {args : List Value} {ds gs : List (DataW H)} {before : List MemPlace} (hvars : s.vars = [])
    (hW : DataW.Whole enc P fn.params.toList s.vars apart W args ds gs before) : gs = [] := by
  obtain ⟨p, q, hA, hV, _⟩ := hW
  rw [hvars] at hV
  exact (trodVars_none hV).1

theorem post_of {P : Program} {f : FuncId} {fn : Func} {s : ChangeSpec} {tb : TypeId} {apart : Bool} {k : (H : Type) → List (DataW H) → Prop} (hl : laidOutB P = true)
    (hparams : (fn.params.toList.all fun t => P.readableRec t && decide (t < P.types.size)) = true) (hres : fn.resultTypes = #[tb]) (htb : P.underlying tb = some .bool) (hvars : s.vars = [])
    (hs : ∀ H (ds : List (DataW H)), ds.length = fn.params.size → s.fn H ds = { results := [.lit (.bool true)], args := ds }) (hg : Gives P f fn k)
    {H : Type} {enc : TypeId × Value → H} {W : World} {args : Array Value} {ds gs : List (DataW H)} {before : List MemPlace} {base : Nat}
    (hval : ∀ (j : Nat) t v, fn.params[j]? = some t → args[j]? = some v → Value.okWide P W .any base t v)
    (hW : DataW.Whole enc P fn.params.toList s.vars apart W args.toList ds gs before)
    (hk : k H (ds ++ gs)) :
    Calls P f args W fun e W' => ∃ v, e = .returned v ∧ s.post enc P fn apart true false false W args v W' := by
  have hW' := hW
  obtain ⟨p, q, hA, hV, rfl, hfz, hnd⟩ := hW
  rw [hvars] at hV
  obtain ⟨rfl, rfl⟩ := trodVars_none hV
  have hlt : ∀ x ∈ p ++ [], x.block < W.heap.size := fun x hx => hW'.lt x hx
  rw [List.append_nil] at hlt hk
  obtain ⟨_, hc⟩ := hg H enc W base args ds p hA hval hk hlt
  refine hc.mono ?_
  rintro e W' ⟨v, rfl, rfl, hf⟩
  have hb : Below W.heap.size W W' := hf.below (Nat.le_refl _) (fun i hi h => h.elim)
  have hlen : ds.length = fn.params.size := by rw [trodAll_length hA]; simp
  refine ⟨_, rfl, ds, [], p ++ [], [], p, [], hW', ?_, ?_, ?_, hb.frame _, fun h => by cases h⟩
  · rw [List.append_nil, hs H ds hlen, hres]
    exact trodAll_mk1 (shut_bool htb true)
  · rw [List.append_nil, hs H ds hlen]
    exact trodAll_stays hl hparams hA (fun x hx => hb.same (hlt x hx)) (fun x hx => by simpa using hlt x hx)
  · rw [List.append_nil, hs H ds hlen, hvars]
    rfl

theorem lifted {C : Checked} {os : Os} {f : FuncId} {fn : Func} {s : ChangeSpec} {tb : TypeId} {apart : Bool} (own : ownKnob C.prog.godebug = none) (started : os.Started) (noInit : C.prog.inits.idxOf? f = none) (hfn : C.prog.funcs[f]? = some fn)
    (hl : laidOutB C.prog = true) (hparams : (fn.params.toList.all fun t => C.prog.readableRec t && decide (t < C.prog.types.size)) = true) (hres : fn.resultTypes = #[tb]) (htb : C.prog.underlying tb = some .bool) (hvars : s.vars = [])
    (hs : ∀ H (ds : List (DataW H)), ds.length = fn.params.size → s.fn H ds = { results := [.lit (.bool true)], args := ds }) (hg : Gives C.prog f fn (Fits C.prog fn))
    {H : Type} {enc : TypeId × Value → H}
    (witness : ∃ (w : World) (tape : Tape) (i : Input), w.os = os ∧ (w.forCall tape i).Shaped C.prog ∧ i.vars = [] ∧ Input.okWide C.prog (w.forCall tape i) .any w.heap.size f i ∧
      s.pre6 enc C.prog fn [] apart (w.forCall tape i).memory i.args ∧ ({} : Assume).holds C.prog (lone (Frame.enter C.prog f i.args .normal) [] (w.forCall tape i))) :
    ReturnsInHanded {} C os f .any (s.pre6 enc C.prog fn [] apart) (s.post enc C.prog fn apart true false false) := by
  refine returnsInHanded_of_change_sized own started noInit hfn witness ?_
  intro W base args ds gs before hval hW _ hsz _
  exact post_of hl hparams hres htb hvars hs hg hval hW (fits_of hvars (gs_nil hvars hW) hsz)
theorem lifted_upto {C : Checked} {os : Os} {f : FuncId} {fn : Func} {s : OpenSpec} {tb : TypeId} {apart : Bool} {k : (H : Type) → List (DataW H) → Bool} (hk : s.cond = some k) (own : ownKnob C.prog.godebug = none) (started : os.Started) (noInit : C.prog.inits.idxOf? f = none) (hfn : C.prog.funcs[f]? = some fn)
    (hl : laidOutB C.prog = true) (hparams : (fn.params.toList.all fun t => C.prog.readableRec t && decide (t < C.prog.types.size)) = true) (hres : fn.resultTypes = #[tb]) (htb : C.prog.underlying tb = some .bool) {F : Stop.Interp} (hvars : s.vars = []) (hvars' : (s.at F).vars = [])
    (hs : ∀ H (ds : List (DataW H)), ds.length = fn.params.size → (s.at F).fn H ds = { results := [.lit (.bool true)], args := ds }) (hg : Gives C.prog f fn fun H ds => k H ds = true)
    {H : Type} {enc : TypeId × Value → H}
    (witness : ∃ (w : World) (tape : Tape) (i : Input), w.os = os ∧ (w.forCall tape i).Shaped C.prog ∧ i.vars = [] ∧ Input.okWide C.prog (w.forCall tape i) .any w.heap.size f i ∧
      s.pre6 enc C.prog fn [] apart (w.forCall tape i).memory i.args ∧ ({} : Assume).holds C.prog (lone (Frame.enter C.prog f i.args .normal) [] (w.forCall tape i))) :
    ReturnsInHanded {} C os f .any (s.pre6 enc C.prog fn [] apart) ((s.at F).post enc C.prog fn apart true false false) := by
  refine returnsInHanded_of_cond hk own started noInit hfn witness ?_
  intro W base args ds gs before hval hW _ hkk _
  rw [hvars] at hW
  exact post_of (k := fun H ds => k H ds = true) hl hparams hres htb hvars' hs hg hval (by rw [hvars']; exact hW) hkk

theorem slice_reads {H : Type} {enc : TypeId × Value → H} {P : Program} {W : World} {t e : TypeId} {v : Value} {d : DataW H} {ps : List MemPlace} (ht : P.underlying t = some (.slice e)) {base : Nat} (hv : Value.okWide P W .any base t v) (h : DataW.Trod enc P W 0 (fun _ => true) true t v d ps) :
    ∃ p n c, v = .slice p n c ∧ n ≤ c ∧ c ≤ maxLen ∧ (d = .nil ∧ n = 0 ∨ ∃ el sp, d = .slice el sp ∧ el.length + sp.length = c ∧ el.length = n) ∧
      ∀ i, i < n → ∃ a cs, p = some a ∧ W.cells? 0 (a.add (i * P.cellsOf e)) (P.cellsOf e) = some cs ∧ ∃ m y, DataW.trod enc P W 0 (fun _ => true) true m e cs = some y := by
  obtain ⟨a0, len0, cap0, rfl⟩ := Go.WideShapes.okWide_slice ht hv
  obtain ⟨fuel, hf⟩ := h
  rcases DataW.trod_slice ht hf with ⟨h1, h2⟩ | ⟨a, len, cap, el, rest, m, hm, h1, h2, _, hl, hc, hlen, hel, hsp, _⟩
  · simp [Value.cells] at h1
    obtain ⟨rfl, rfl, rfl⟩ := h1
    exact ⟨_, _, _, rfl, Nat.le_refl _, Nat.zero_le _, .inl ⟨congrArg Prod.fst h2, rfl⟩, fun i hi => by omega⟩
  · simp [Value.cells] at h1
    obtain ⟨rfl, rfl, rfl⟩ := h1
    refine ⟨_, _, _, rfl, hl, hc, .inr ⟨_, _, congrArg Prod.fst h2, ?_, by simpa using hlen⟩, fun i hi => ?_⟩
    · have := (hsp rfl).1
      simp; omega
    · have hi' : i < el.length := by omega
      have := hel i hi
      rw [List.getElem?_eq_getElem hi', Option.bind_eq_some_iff] at this
      obtain ⟨cs, hcs, hy⟩ := this
      exact ⟨a, cs, rfl, hcs, m, _, hy⟩

theorem strings_of {H : Type} {enc : TypeId × Value → H} {P : Program} {W : World} {e : TypeId} {p : Option Addr} {n : Nat} (he : P.underlying e = some .string) (hc : P.cellsOf e = 1)
    (h : ∀ i, i < n → ∃ a cs, p = some a ∧ W.cells? 0 (a.add (i * P.cellsOf e)) (P.cellsOf e) = some cs ∧ ∃ m y, DataW.trod enc P W 0 (fun _ => true) true m e cs = some y) :
    ∃ ss : Nat → ByteArray, ∀ i, i < n → (∃ ad, p = some ad ∧ W.cell? (ad.add i) = some (.string (ss i))) ∧ (ss i).size ≤ maxLen := by
  have : ∀ i, ∃ s : ByteArray, i < n → (∃ ad, p = some ad ∧ W.cell? (ad.add i) = some (.string s)) ∧ s.size ≤ maxLen := by
    intro i
    by_cases hi : i < n
    · obtain ⟨a, cs, rfl, hcs, m, y, hy⟩ := h i hi
      rw [hc, Nat.mul_one] at hcs
      obtain ⟨s, rfl, _, hs⟩ := DataW.trod_string he hy
      exact ⟨s, fun _ => ⟨⟨a, rfl, cell_of_cells?_one hcs⟩, hs⟩⟩
    · exact ⟨⟨#[]⟩, fun h => absurd h hi⟩
  exact ⟨fun i => (this i).choose, fun i => (this i).choose_spec⟩
theorem ints_of {H : Type} {enc : TypeId × Value → H} {P : Program} {W : World} {e : TypeId} {k : IntKind} {p : Option Addr} {n : Nat} (he : P.underlying e = some (.int k)) (hc : P.cellsOf e = 1)
    (h : ∀ i, i < n → ∃ a cs, p = some a ∧ W.cells? 0 (a.add (i * P.cellsOf e)) (P.cellsOf e) = some cs ∧ ∃ m y, DataW.trod enc P W 0 (fun _ => true) true m e cs = some y) :
    ∃ ss : Nat → Int, ∀ i, i < n → (∃ ad, p = some ad ∧ W.cell? (ad.add i) = some (.int k (ss i))) ∧ (Lit.int k (ss i)).wf = true := by
  have : ∀ i, ∃ s : Int, i < n → (∃ ad, p = some ad ∧ W.cell? (ad.add i) = some (.int k s)) ∧ (Lit.int k s).wf = true := by
    intro i
    by_cases hi : i < n
    · obtain ⟨a, cs, rfl, hcs, m, y, hy⟩ := h i hi
      rw [hc, Nat.mul_one] at hcs
      obtain ⟨s, rfl, _, hs⟩ := DataW.trod_int he hy
      exact ⟨s, fun _ => ⟨⟨a, rfl, cell_of_cells?_one hcs⟩, hs⟩⟩
    · exact ⟨0, fun h => absurd h hi⟩
  exact ⟨fun i => (this i).choose, fun i => (this i).choose_spec⟩
theorem len_fits {H : Type} {P : Program} {fn : Func} {ds : List (DataW H)} (h : Fits P fn H ds) {j : Nat} {t e : TypeId} {d : DataW H} {n c b : Nat} (ht : fn.params.toList[j]? = some t) (hd : ds[j]? = some d) (hu : P.underlying t = some (.slice e)) (hb : P.bytesOf e = b)
    (hx : d = .nil ∧ n = 0 ∨ ∃ el sp, d = .slice el sp ∧ el.length + sp.length = c ∧ el.length = n) : n * b ≤ 140737488351232 := by
  rcases hx with ⟨_, rfl⟩ | ⟨el, sp, rfl, _, rfl⟩
  · simp
  · have := sized_slice h ht hd hu
    rw [hb] at this
    have h2 : el.length * b ≤ (el.length + sp.length) * b := Nat.mul_le_mul_right _ (by omega)
    have h3 : reachBytes = 140737488351232 := rfl
    omega

theorem field_int {H : Type} {enc : TypeId × Value → H} {P : Program} {W : World} {e t : TypeId} {k : IntKind} {l : List (Nat × TypeId)} {off m : Nat} {cs : List Value} {y : DataW H × List MemPlace} (he : (row P e).k = .struct l) (hl : (off, t) ∈ l) (ht : P.underlying t = some (.int k)) (hc : P.cellsOf t = 1)
    (h : DataW.trod enc P W 0 (fun _ => true) true m e cs = some y) : ∃ i, cs[off]? = some (.int k i) ∧ (Lit.int k i).wf = true := by
  obtain ⟨i, d, hi, hd, hr⟩ := row_spec (P := P) (t := e) (by rw [he]; simp)
  rw [hr] at he
  cases d <;> simp [kOf] at he
  rename_i fs
  obtain ⟨xs, n, rfl, -, -, hxl, hf⟩ := DataW.trod_struct hd h
  rw [← he] at hl
  obtain ⟨f, hfm, hfe⟩ := List.mem_map.1 hl
  obtain ⟨j, hj⟩ := List.getElem?_of_mem hfm
  have hj' : fs[j]? = some f := by simpa using hj
  have h2 := hf j f hj'
  have hjl : j < xs.length := by have := (Array.getElem?_eq_some_iff.1 hj').1; omega
  rw [List.getElem?_eq_getElem hjl] at h2
  cases hfe
  obtain ⟨i, hi, -, hw⟩ := DataW.trod_int ht h2
  rw [hc] at hi
  refine ⟨i, ?_, hw⟩
  have : ((cs.drop f.offset).take 1)[0]? = some (.int k i) := by rw [hi]; rfl
  simpa [List.getElem?_take, List.getElem?_drop] using this
end Go.Proofs.YtipikchkbmgloaaDoor.VC
