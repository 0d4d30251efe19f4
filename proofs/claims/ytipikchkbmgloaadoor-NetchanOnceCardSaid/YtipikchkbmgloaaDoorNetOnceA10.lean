/- What NetOnce needs, part 10 of 12: Row Msgs Msz Msq.  Conditions: as each part says. -/
import Derived.ProofKit
import Derived.OpenShut
import Derived.SizedLaws
import Derived.JoinedCond
import Derived.Test.YtipikchkbmgloaaDoorNetOnceA9
namespace Go.Proofs.YtipikchkbmgloaaDoor.VC
set_option linter.unusedSimpArgs false
set_option linter.unusedVariables false
open Go Go.RowKit Go.ChangeShapes

theorem trodAll_stays {H : Type} {enc : TypeId × Value → H} {P : Program} {W W' : World} {sp : Nat → Bool} (hl : laidOutB P = true) : ∀ {ts : List TypeId} {vs : List Value} {ds : List (DataW H)} {ps : List MemPlace},
    (ts.all fun t => P.readableRec t && decide (t < P.types.size)) = true → DataW.TrodAll enc P W 0 (fun _ => true) true ts vs ds ps → (∀ p ∈ ps, W.sameAt W' p) → (∀ p ∈ ps, sp p.block = true) → DataW.TrodAll enc P W' 0 sp true ts vs ds ps
  | [], [], [], _, _, h, _, _ => h
  | t :: ts, v :: vs, d :: ds, ps, ht, ⟨p, q, h1, h2, e⟩, hsame, hs => by
    simp only [List.all_cons, Bool.and_eq_true, decide_eq_true_eq] at ht
    subst e
    refine ⟨p, q, WideElems.Trod_stays hl ht.1.1 ht.1.2 h1 (fun x hx => hsame x (List.mem_append_left _ hx)) (fun x hx => hs x (List.mem_append_left _ hx)), trodAll_stays hl ?_ h2 (fun x hx => hsame x (List.mem_append_right _ hx)) (fun x hx => hs x (List.mem_append_right _ hx)), rfl⟩
    simpa [List.all_eq_true] using ht.2
  | [], [], _ :: _, _, _, h, _, _ => h.elim
  | [], _ :: _, _, _, _, h, _, _ => h.elim
  | _ :: _, [], _, _, _, h, _, _ => h.elim
  | _ :: _, _ :: _, [], _, _, h, _, _ => h.elim

theorem trodAll_length {H : Type} {enc : TypeId × Value → H} {P : Program} {W : World} {sp : Nat → Bool} : ∀ {ts : List TypeId} {vs : List Value} {ds : List (DataW H)} {ps : List MemPlace}, DataW.TrodAll enc P W 0 sp true ts vs ds ps → ds.length = ts.length
  | [], [], [], _, _ => rfl
  | _ :: _, _ :: _, _ :: _, _, ⟨_, _, _, h2, _⟩ => by simp [trodAll_length h2]
  | [], [], _ :: _, _, h => h.elim
  | [], _ :: _, _, _, h => h.elim
  | _ :: _, [], _, _, h => h.elim
  | _ :: _, _ :: _, [], _, h => h.elim

def Gives (P : Program) (f : FuncId) (fn : Func) (k : (H : Type) → List (DataW H) → Prop) : Prop :=
  ∀ (H : Type) (enc : TypeId × Value → H) (W : World) (base : Nat) (args : Array Value) (ds : List (DataW H)) (ps : List MemPlace),
    DataW.TrodAll enc P W 0 (fun _ => true) true fn.params.toList args.toList ds ps → (∀ (j : Nat) t v, fn.params[j]? = some t → args[j]? = some v → Value.okWide P W .any base t v) →
    k H ds → (∀ p ∈ ps, p.block < W.heap.size) →
    callV P f args.toList W fun v w' => v = .bool true ∧ Fm none' W w'

def Fits (P : Program) (fn : Func) (H : Type) (ds : List (DataW H)) : Prop := (DataW.weightsEach P fn.params.toList ds).all (· ≤ reachBytes) = true
theorem fits_of {P : Program} {fn : Func} {s : ChangeSpec} {H : Type} {ds gs : List (DataW H)} (hvars : s.vars = []) (hg : gs = []) (h : (DataW.weightsEach P (fn.params.toList ++ s.plain.varTypes P) (ds ++ gs)).all (· ≤ reachBytes) = true) : Fits P fn H (ds ++ gs) := by
  subst hg
  have : s.plain.varTypes P = [] := by simp [DataSpec.varTypes, ChangeSpec.plain, hvars]
  rw [this, List.append_nil fn.params.toList] at h
  exact h
theorem gs_nil {P : Program} {fn : Func} {s : ChangeSpec} {apart : Bool} {H : Type} {enc : TypeId × Value → H} {W : World} {args : List Value} {ds gs : List (DataW H)} {before : List MemPlace} (hvars : s.vars = [])
    (hW : DataW.Whole enc P fn.params.toList s.vars apart W args ds gs before) : gs = [] := by
  obtain ⟨p, q, hA, hV, _⟩ := hW
  rw [hvars] at hV
  exact (trodVars_none hV).1

theorem post_of {P : Program} {f : FuncId} {fn : Func} {s : ChangeSpec} {tb : TypeId} {apart : Bool} {k : (H : Type) → List (DataW H) → Prop} (hl : laidOutB P = true)
    (hparams : (fn.params.toList.all fun t => P.readableRec t && decide (t < P.types.size)) = true) (hres : fn.resultTypes = #[tb]) (htb : P.underlying tb = some .bool) (hvars : s.vars = [])
    (hs : ∀ H (ds : List (DataW H)), ds.length = fn.params.size → s.fn H ds = { results := [.lit (.bool true)], args := ds }) (hg : Gives P f fn k)
    {H : Type} {enc : TypeId × Value → H} {W : World} {args : Array Value} {ds gs : List (DataW H)} {before : List MemPlace} {base : Nat}
    (hval : ∀ (j : Nat) t v, fn.params[j]? = some t → args[j]? = some v → Value.okWide P W .any base t v)
    (hW : DataW.Whole enc P fn.params.toList s.vars apart W args.toList ds gs before)
    (hk : k H (ds ++ gs)) :
    Calls P f args W fun e W' => ∃ v, e = .returned v ∧ s.post enc P fn apart true false false W args v W' := by
  have hW' := hW
  obtain ⟨p, q, hA, hV, rfl, hfz, hnd⟩ := hW
  rw [hvars] at hV
  obtain ⟨rfl, rfl⟩ := trodVars_none hV
  have hlt : ∀ x ∈ p ++ [], x.block < W.heap.size := fun x hx => hW'.lt x hx
  rw [List.append_nil] at hlt hk
  obtain ⟨_, hc⟩ := hg H enc W base args ds p hA hval hk hlt
  refine hc.mono ?_
  rintro e W' ⟨v, rfl, rfl, hf⟩
  have hb : Below W.heap.size W W' := hf.below (Nat.le_refl _) (fun i hi h => h.elim)
  have hlen : ds.length = fn.params.size := by rw [trodAll_length hA]; simp
  refine ⟨_, rfl, ds, [], p ++ [], [], p, [], hW', ?_, ?_, ?_, hb.frame _, fun h => by cases h⟩
  · rw [List.append_nil, hs H ds hlen, hres]
    exact trodAll_mk1 (shut_bool htb true)
  · rw [List.append_nil, hs H ds hlen]
    exact trodAll_stays hl hparams hA (fun x hx => hb.same (hlt x hx)) (fun x hx => by simpa using hlt x hx)
  · rw [List.append_nil, hs H ds hlen, hvars]
    rfl

theorem lifted {C : Checked} {os : Os} {f : FuncId} {fn : Func} {s : ChangeSpec} {tb : TypeId} {apart : Bool} (own : ownKnob C.prog.godebug = none) (started : os.Started) (noInit : C.prog.inits.idxOf? f = none) (hfn : C.prog.funcs[f]? = some fn)
    (hl : laidOutB C.prog = true) (hparams : (fn.params.toList.all fun t => C.prog.readableRec t && decide (t < C.prog.types.size)) = true) (hres : fn.resultTypes = #[tb]) (htb : C.prog.underlying tb = some .bool) (hvars : s.vars = [])
    (hs : ∀ H (ds : List (DataW H)), ds.length = fn.params.size → s.fn H ds = { results := [.lit (.bool true)], args := ds }) (hg : Gives C.prog f fn (Fits C.prog fn))
    {H : Type} {enc : TypeId × Value → H}
    (witness : ∃ (w : World) (tape : Tape) (i : Input), w.os = os ∧ (w.forCall tape i).Shaped C.prog ∧ i.vars = [] ∧ Input.okWide C.prog (w.forCall tape i) .any w.heap.size f i ∧
      s.pre6 enc C.prog fn [] apart (w.forCall tape i).memory i.args ∧ ({} : Assume).holds C.prog (lone (Frame.enter C.prog f i.args .normal) [] (w.forCall tape i))) :
    ReturnsInHanded {} C os f .any (s.pre6 enc C.prog fn [] apart) (s.post enc C.prog fn apart true false false) := by
  refine returnsInHanded_of_change_sized own started noInit hfn witness ?_
  intro W base args ds gs before hval hW _ hsz _
  exact post_of hl hparams hres htb hvars hs hg hval hW (fits_of hvars (gs_nil hvars hW) hsz)
theorem lifted_upto {C : Checked} {os : Os} {f : FuncId} {fn : Func} {s : OpenSpec} {tb : TypeId} {apart : Bool} {k : (H : Type) → List (DataW H) → Bool} (hk : s.cond = some k) (own : ownKnob C.prog.godebug = none) (started : os.Started) (noInit : C.prog.inits.idxOf? f = none) (hfn : C.prog.funcs[f]? = some fn)
    (hl : laidOutB C.prog = true) (hparams : (fn.params.toList.all fun t => C.prog.readableRec t && decide (t < C.prog.types.size)) = true) (hres : fn.resultTypes = #[tb]) (htb : C.prog.underlying tb = some .bool) {F : Stop.Interp} (hvars : s.vars = []) (hvars' : (s.at F).vars = [])
    (hs : ∀ H (ds : List (DataW H)), ds.length = fn.params.size → (s.at F).fn H ds = { results := [.lit (.bool true)], args := ds }) (hg : Gives C.prog f fn fun H ds => k H ds = true)
    {H : Type} {enc : TypeId × Value → H}
    (witness : ∃ (w : World) (tape : Tape) (i : Input), w.os = os ∧ (w.forCall tape i).Shaped C.prog ∧ i.vars = [] ∧ Input.okWide C.prog (w.forCall tape i) .any w.heap.size f i ∧
      s.pre6 enc C.prog fn [] apart (w.forCall tape i).memory i.args ∧ ({} : Assume).holds C.prog (lone (Frame.enter C.prog f i.args .normal) [] (w.forCall tape i))) :
    ReturnsInHanded {} C os f .any (s.pre6 enc C.prog fn [] apart) ((s.at F).post enc C.prog fn apart true false false) := by
  refine returnsInHanded_of_cond hk own started noInit hfn witness ?_
  intro W base args ds gs before hval hW _ hkk _
  rw [hvars] at hW
  exact post_of (k := fun H ds => k H ds = true) hl hparams hres htb hvars' hs hg hval (by rw [hvars']; exact hW) hkk

theorem slice_reads {H : Type} {enc : TypeId × Value → H} {P : Program} {W : World} {t e : TypeId} {v : Value} {d : DataW H} {ps : List MemPlace} (ht : P.underlying t = some (.slice e)) {base : Nat} (hv : Value.okWide P W .any base t v) (h : DataW.Trod enc P W 0 (fun _ => true) true t v d ps) :
    ∃ p n c, v = .slice p n c ∧ n ≤ c ∧ c ≤ maxLen ∧ (d = .nil ∧ n = 0 ∨ ∃ el sp, d = .slice el sp ∧ el.length + sp.length = c ∧ el.length = n) ∧
      ∀ i, i < n → ∃ a cs, p = some a ∧ W.cells? 0 (a.add (i * P.cellsOf e)) (P.cellsOf e) = some cs ∧ ∃ m y, DataW.trod enc P W 0 (fun _ => true) true m e cs = some y := by
  obtain ⟨a0, len0, cap0, rfl⟩ := Go.WideShapes.okWide_slice ht hv
  obtain ⟨fuel, hf⟩ := h
  rcases DataW.trod_slice ht hf with ⟨h1, h2⟩ | ⟨a, len, cap, el, rest, m, hm, h1, h2, _, hl, hc, hlen, hel, hsp, _⟩
  · simp [Value.cells] at h1
    obtain ⟨rfl, rfl, rfl⟩ := h1
    exact ⟨_, _, _, rfl, Nat.le_refl _, Nat.zero_le _, .inl ⟨congrArg Prod.fst h2, rfl⟩, fun i hi => by omega⟩
  · simp [Value.cells] at h1
    obtain ⟨rfl, rfl, rfl⟩ := h1
    refine ⟨_, _, _, rfl, hl, hc, .inr ⟨_, _, congrArg Prod.fst h2, ?_, by simpa using hlen⟩, fun i hi => ?_⟩
    · have := (hsp rfl).1
      simp; omega
    · have hi' : i < el.length := by omega
      have := hel i hi
      rw [List.getElem?_eq_getElem hi', Option.bind_eq_some_iff] at this
      obtain ⟨cs, hcs, hy⟩ := this
      exact ⟨a, cs, rfl, hcs, m, _, hy⟩

theorem strings_of {H : Type} {enc : TypeId × Value → H} {P : Program} {W : World} {e : TypeId} {p : Option Addr} {n : Nat} (he : P.underlying e = some .string) (hc : P.cellsOf e = 1)
    (h : ∀ i, i < n → ∃ a cs, p = some a ∧ W.cells? 0 (a.add (i * P.cellsOf e)) (P.cellsOf e) = some cs ∧ ∃ m y, DataW.trod enc P W 0 (fun _ => true) true m e cs = some y) :
    ∃ ss : Nat → ByteArray, ∀ i, i < n → (∃ ad, p = some ad ∧ W.cell? (ad.add i) = some (.string (ss i))) ∧ (ss i).size ≤ maxLen := by
  have : ∀ i, ∃ s : ByteArray, i < n → (∃ ad, p = some ad ∧ W.cell? (ad.add i) = some (.string s)) ∧ s.size ≤ maxLen := by
    intro i
    by_cases hi : i < n
    · obtain ⟨a, cs, rfl, hcs, m, y, hy⟩ := h i hi
      rw [hc, Nat.mul_one] at hcs
      obtain ⟨s, rfl, _, hs⟩ := DataW.trod_string he hy
      exact ⟨s, fun _ => ⟨⟨a, rfl, cell_of_cells?_one hcs⟩, hs⟩⟩
    · exact ⟨⟨#[]⟩, fun h => absurd h hi⟩
  exact ⟨fun i => (this i).choose, fun i => (this i).choose_spec⟩
theorem ints_of {H : Type} {enc : TypeId × Value → H} {P : Program} {W : World} {e : TypeId} {k : IntKind} {p : Option Addr} {n : Nat} (he : P.underlying e = some (.int k)) (hc : P.cellsOf e = 1)
    (h : ∀ i, i < n → ∃ a cs, p = some a ∧ W.cells? 0 (a.add (i * P.cellsOf e)) (P.cellsOf e) = some cs ∧ ∃ m y, DataW.trod enc P W 0 (fun _ => true) true m e cs = some y) :
    ∃ ss : Nat → Int, ∀ i, i < n → (∃ ad, p = some ad ∧ W.cell? (ad.add i) = some (.int k (ss i))) ∧ (Lit.int k (ss i)).wf = true := by
  have : ∀ i, ∃ s : Int, i < n → (∃ ad, p = some ad ∧ W.cell? (ad.add i) = some (.int k s)) ∧ (Lit.int k s).wf = true := by
    intro i
    by_cases hi : i < n
    · obtain ⟨a, cs, rfl, hcs, m, y, hy⟩ := h i hi
      rw [hc, Nat.mul_one] at hcs
      obtain ⟨s, rfl, _, hs⟩ := DataW.trod_int he hy
      exact ⟨s, fun _ => ⟨⟨a, rfl, cell_of_cells?_one hcs⟩, hs⟩⟩
    · exact ⟨0, fun h => absurd h hi⟩
  exact ⟨fun i => (this i).choose, fun i => (this i).choose_spec⟩
theorem len_fits {H : Type} {P : Program} {fn : Func} {ds : List (DataW H)} (h : Fits P fn H ds) {j : Nat} {t e : TypeId} {d : DataW H} {n c b : Nat} (ht : fn.params.toList[j]? = some t) (hd : ds[j]? = some d) (hu : P.underlying t = some (.slice e)) (hb : P.bytesOf e = b)
    (hx : d = .nil ∧ n = 0 ∨ ∃ el sp, d = .slice el sp ∧ el.length + sp.length = c ∧ el.length = n) : n * b ≤ 140737488351232 := by
  rcases hx with ⟨_, rfl⟩ | ⟨el, sp, rfl, _, rfl⟩
  · simp
  · have := sized_slice h ht hd hu
    rw [hb] at this
    have h2 : el.length * b ≤ (el.length + sp.length) * b := Nat.mul_le_mul_right _ (by omega)
    have h3 : reachBytes = 140737488351232 := rfl
    omega

theorem field_int {H : Type} {enc : TypeId × Value → H} {P : Program} {W : World} {e t : TypeId} {k : IntKind} {l : List (Nat × TypeId)} {off m : Nat} {cs : List Value} {y : DataW H × List MemPlace} (he : (row P e).k = .struct l) (hl : (off, t) ∈ l) (ht : P.underlying t = some (.int k)) (hc : P.cellsOf t = 1)
    (h : DataW.trod enc P W 0 (fun _ => true) true m e cs = some y) : ∃ i, cs[off]? = some (.int k i) ∧ (Lit.int k i).wf = true := by
  obtain ⟨i, d, hi, hd, hr⟩ := row_spec (P := P) (t := e) (by rw [he]; simp)
  rw [hr] at he
  cases d <;> simp [kOf] at he
  rename_i fs
  obtain ⟨xs, n, rfl, -, -, hxl, hf⟩ := DataW.trod_struct hd h
  rw [← he] at hl
  obtain ⟨f, hfm, hfe⟩ := List.mem_map.1 hl
  obtain ⟨j, hj⟩ := List.getElem?_of_mem hfm
  have hj' : fs[j]? = some f := by simpa using hj
  have h2 := hf j f hj'
  have hjl : j < xs.length := by have := (Array.getElem?_eq_some_iff.1 hj').1; omega
  rw [List.getElem?_eq_getElem hjl] at h2
  cases hfe
  obtain ⟨i, hi, -, hw⟩ := DataW.trod_int ht h2
  rw [hc] at hi
  refine ⟨i, ?_, hw⟩
  have : ((cs.drop f.offset).take 1)[0]? = some (.int k i) := by rw [hi]; rfl
  simpa [List.getElem?_take, List.getElem?_drop] using this
end Go.Proofs.YtipikchkbmgloaaDoor.VC
namespace Go.Proofs.YtipikchkbmgloaaDoor
set_option linter.unusedSimpArgs false
set_option linter.unusedVariables false
open Go Go.RowKit Go.ChangeShapes Go.WideShapes VC
section
variable {H : Type} {enc : TypeId × Value → H} {P : Program} {W : World}
theorem field_part {e t : TypeId} {l : List (Nat × TypeId)} {off m : Nat} {cs : List Value} {y : DataW H × List MemPlace} (he : (row P e).k = .struct l) (hl : (off, t) ∈ l)
    (h : DataW.trod enc P W 0 (fun _ => true) true m e cs = some y) : cs.length = P.cellsOf e ∧ ∃ m' y', DataW.trod enc P W 0 (fun _ => true) true m' t ((cs.drop off).take (P.cellsOf t)) = some y' := by
  obtain ⟨i, d, hi, hd, hr⟩ := row_spec (P := P) (t := e) (by rw [he]; simp)
  rw [hr] at he
  cases d <;> simp [kOf] at he
  rename_i fs
  obtain ⟨xs, n, rfl, -, hcl, hxl, hf⟩ := DataW.trod_struct hd h
  rw [← he] at hl
  obtain ⟨f, hfm, hfe⟩ := List.mem_map.1 hl
  obtain ⟨j, hj⟩ := List.getElem?_of_mem hfm
  have hj' : fs[j]? = some f := by simpa using hj
  have h2 := hf j f hj'
  have hjl : j < xs.length := by have := (Array.getElem?_eq_some_iff.1 hj').1; omega
  rw [List.getElem?_eq_getElem hjl] at h2
  cases hfe
  exact ⟨hcl, n, _, h2⟩
theorem wf_rng {k : IntKind} {i : Int} (h : (Lit.int k i).wf = true) : k.min ≤ i ∧ i ≤ k.max := by
  simpa [Lit.wf] using h
theorem wf_8 {i : Int} (h : (Lit.int .u8 i).wf = true) : 0 ≤ i ∧ i < 256 := by
  have := wf_rng h; have h1 : IntKind.u8.min = 0 := rfl; have h2 : IntKind.u8.max = 255 := rfl; omega
theorem wf_16 {i : Int} (h : (Lit.int .u16 i).wf = true) : 0 ≤ i ∧ i < 65536 := by
  have := wf_rng h; have h1 : IntKind.u16.min = 0 := rfl; have h2 : IntKind.u16.max = 65535 := rfl; omega
theorem wf_32 {i : Int} (h : (Lit.int .u32 i).wf = true) : 0 ≤ i ∧ i < 4294967296 := by
  have := wf_rng h; have h1 : IntKind.u32.min = 0 := rfl; have h2 : IntKind.u32.max = 4294967295 := rfl; omega
theorem wf_i8 {i : Int} (h : (Lit.int .i8 i).wf = true) : -128 ≤ i ∧ i < 128 := by
  have := wf_rng h; have h1 : IntKind.i8.min = -128 := rfl; have h2 : IntKind.i8.max = 127 := rfl; omega
theorem wf_64 {i : Int} (h : (Lit.int .i64 i).wf = true) : I64 i := by
  have := wf_rng h; have h1 : IntKind.i64.min = -9223372036854775808 := rfl; have h2 : IntKind.i64.max = 9223372036854775807 := rfl
  unfold I64; omega
theorem int_in {t : TypeId} {k : IntKind} {m : Nat} {cs : List Value} {y : DataW H × List MemPlace} (ht : P.underlying t = some (.int k)) (h : DataW.trod enc P W 0 (fun _ => true) true m t cs = some y) : ∃ i, cs = [.int k i] ∧ (Lit.int k i).wf = true := by
  obtain ⟨i, hi, -, hw⟩ := DataW.trod_int ht h
  exact ⟨i, hi, hw⟩
theorem bytes_in {t e : TypeId} {m : Nat} {cs : List Value} {y : DataW H × List MemPlace} (ht : P.underlying t = some (.slice e)) (he : P.underlying e = some (.int .u8)) (hc1 : P.cellsOf e = 1) (h : DataW.trod enc P W 0 (fun _ => true) true m t cs = some y) :
    ∃ (p : Option Addr) (c : Nat) (ys : List Int), cs = [.slice p ys.length c] ∧ ys.length ≤ c ∧ c ≤ maxLen ∧ (∀ y ∈ ys, 0 ≤ y ∧ y < 256) ∧ BytesAt W p ys ∧ (y.1 = .nil ∧ ys.length = 0 ∨ ∃ el sp, y.1 = .slice el sp ∧ el.length + sp.length = c ∧ el.length = ys.length) := by
  rcases DataW.trod_slice ht h with ⟨h1, h2⟩ | ⟨a, len, cap, el, rest, m, hm, h1, h2, _, hl, hc, hlen, hel, hsp, _⟩
  · exact ⟨none, 0, [], h1, Nat.le_refl _, Nat.zero_le _, fun y hy => (by simp at hy), fun j y hj => (by simp at hj), .inl ⟨congrArg Prod.fst h2, rfl⟩⟩
  · have : ∀ i, ∃ x : Int, i < len → (0 ≤ x ∧ x < 256) ∧ W.cell? (a.add i) = some (.int .u8 x) := by
      intro i
      by_cases hi : i < len
      · have hi' : i < el.length := by omega
        have h3 := hel i hi
        rw [List.getElem?_eq_getElem hi', Option.bind_eq_some_iff] at h3
        obtain ⟨cs', hcs, hy⟩ := h3
        rw [hc1, Nat.mul_one] at hcs
        obtain ⟨x, hx, hw⟩ := int_in he hy
        subst hx
        exact ⟨x, fun _ => ⟨wf_8 hw, cell_of_cells?_one hcs⟩⟩
      · exact ⟨0, fun h => absurd h hi⟩
    obtain ⟨f, hf⟩ : ∃ f : Nat → Int, ∀ i, i < len → (0 ≤ f i ∧ f i < 256) ∧ W.cell? (a.add i) = some (.int .u8 (f i)) := ⟨fun i => Classical.choose (this i), fun i => Classical.choose_spec (this i)⟩
    have hlen2 : ((List.range len).map f).length = len := by simp
    refine ⟨some a, cap, (List.range len).map f, by rw [h1, hlen2], by rw [hlen2]; exact hl, hc, fun y hy => ?_, fun j y hj => ?_, .inr ⟨_, _, congrArg Prod.fst h2, ?_, by rw [hlen2]; simpa using hlen⟩⟩
    · obtain ⟨i, hi, rfl⟩ := List.mem_map.1 hy
      exact (hf i (by simpa using hi)).1
    · rw [List.getElem?_map, Option.map_eq_some_iff] at hj
      obtain ⟨i, hi, rfl⟩ := hj
      have hjl : j < len := by have := (List.getElem?_eq_some_iff.1 hi).1; simpa using this
      rw [List.getElem?_range hjl] at hi
      cases hi
      exact ⟨a, rfl, (hf _ hjl).2⟩
    · have := (hsp rfl).1
      simp; omega
end
theorem list23 {l : List Value} (h : l.length = 23) : ∃ c0 c1 c2 c3 c4 c5 c6 c7 c8 c9 c10 c11 c12 c13 c14 c15 c16 c17 c18 c19 c20 c21 c22, l = [c0, c1, c2, c3, c4, c5, c6, c7, c8, c9, c10, c11, c12, c13, c14, c15, c16, c17, c18, c19, c20, c21, c22] := by
  match l, h with
  | [c0, c1, c2, c3, c4, c5, c6, c7, c8, c9, c10, c11, c12, c13, c14, c15, c16, c17, c18, c19, c20, c21, c22], _ => exact ⟨_, _, _, _, _, _, _, _, _, _, _, _, _, _, _, _, _, _, _, _, _, _, _, rfl⟩
variable {H : Type} {enc : TypeId × Value → H} {W : World}
theorem msg_in {m : Nat} {cs : List Value} {y : DataW H × List MemPlace} (h : DataW.trod enc Tryd.prog W 0 (fun _ => true) true m 53 cs = some y) :
    ∃ (M : Msg) (q : Option Addr) (cq : Nat), cs = msgC M q cq ∧ Mok M ∧ M.bytes.length ≤ cq ∧ cq ≤ maxLen ∧ BytesAt W q M.bytes := by
  have k40 : Tryd.prog.cellsOf 53 = 23 := by kernel_rfl
  have k35 : Tryd.prog.cellsOf 49 = 5 := by kernel_rfl
  have k37 : Tryd.prog.cellsOf 51 = 3 := by kernel_rfl
  have k3 : Tryd.prog.cellsOf 3 = 1 := by kernel_rfl
  have k2 : Tryd.prog.cellsOf 2 = 1 := by kernel_rfl
  have k26 : Tryd.prog.cellsOf 28 = 1 := by kernel_rfl
  have k32 : Tryd.prog.cellsOf 22 = 1 := by kernel_rfl
  have k33 : Tryd.prog.cellsOf 47 = 1 := by kernel_rfl
  have k38 : Tryd.prog.cellsOf 23 = 1 := by kernel_rfl
  have k5 : Tryd.prog.cellsOf 5 = 1 := by kernel_rfl
  have k25 : Tryd.prog.cellsOf 25 = 1 := by kernel_rfl
  have u3 := int_of_row (P := Tryd.prog) (t := 3) (by rw [row3])
  have u2 := int_of_row (P := Tryd.prog) (t := 2) (by rw [row2])
  have u26 := int_of_row (P := Tryd.prog) (t := 28) (by rw [row28])
  have u32 := int_of_row (P := Tryd.prog) (t := 22) (by rw [row22])
  have u33 := int_of_row (P := Tryd.prog) (t := 47) (by rw [row47])
  have u38 := int_of_row (P := Tryd.prog) (t := 23) (by rw [row23])
  have u5 := int_of_row (P := Tryd.prog) (t := 5) (by rw [row5])
  have u25 := slice_of_row (P := Tryd.prog) (t := 25) (e := 5) (by rw [row25])
  obtain ⟨hla0, ma0, ya0, ta0⟩ := field_part (e := 53) (t := 3) (off := 0) (by rw [row53]) (by simp) h
  rw [k40] at hla0
  obtain ⟨c0, c1, c2, c3, c4, c5, c6, c7, c8, c9, c10, c11, c12, c13, c14, c15, c16, c17, c18, c19, c20, c21, c22, rfl⟩ := list23 hla0
  rw [k3] at ta0
  obtain ⟨x0, e0, w0⟩ := int_in u3 ta0
  obtain ⟨hla1, ma1, ya1, ta1⟩ := field_part (e := 53) (t := 22) (off := 1) (by rw [row53]) (by simp) h
  rw [k32] at ta1
  obtain ⟨x1, e1, w1⟩ := int_in u32 ta1
  obtain ⟨hlC, mC, yC, tC⟩ := field_part (e := 53) (t := 49) (off := 2) (by rw [row53]) (by simp) h
  rw [k35] at tC
  obtain ⟨hla2, ma2, ya2, ta2⟩ := field_part (e := 49) (t := 22) (off := 0) (by rw [row49]) (by simp) tC
  rw [k32] at ta2
  obtain ⟨x2, e2, w2⟩ := int_in u32 ta2
  obtain ⟨hla3, ma3, ya3, ta3⟩ := field_part (e := 49) (t := 5) (off := 1) (by rw [row49]) (by simp) tC
  rw [k5] at ta3
  obtain ⟨x3, e3, w3⟩ := int_in u5 ta3
  obtain ⟨hla4, ma4, ya4, ta4⟩ := field_part (e := 49) (t := 47) (off := 2) (by rw [row49]) (by simp) tC
  rw [k33] at ta4
  obtain ⟨x4, e4, w4⟩ := int_in u33 ta4
  obtain ⟨hla5, ma5, ya5, ta5⟩ := field_part (e := 49) (t := 47) (off := 3) (by rw [row49]) (by simp) tC
  rw [k33] at ta5
  obtain ⟨x5, e5, w5⟩ := int_in u33 ta5
  obtain ⟨hla6, ma6, ya6, ta6⟩ := field_part (e := 49) (t := 3) (off := 4) (by rw [row49]) (by simp) tC
  rw [k3] at ta6
  obtain ⟨x6, e6, w6⟩ := int_in u3 ta6
  obtain ⟨hla7, ma7, ya7, ta7⟩ := field_part (e := 53) (t := 22) (off := 7) (by rw [row53]) (by simp) h
  rw [k32] at ta7
  obtain ⟨x7, e7, w7⟩ := int_in u32 ta7
  obtain ⟨hla8, ma8, ya8, ta8⟩ := field_part (e := 53) (t := 3) (off := 8) (by rw [row53]) (by simp) h
  rw [k3] at ta8
  obtain ⟨x8, e8, w8⟩ := int_in u3 ta8
  obtain ⟨hla9, ma9, ya9, ta9⟩ := field_part (e := 53) (t := 3) (off := 9) (by rw [row53]) (by simp) h
  rw [k3] at ta9
  obtain ⟨x9, e9, w9⟩ := int_in u3 ta9
  obtain ⟨hlD, mD, yD, tD⟩ := field_part (e := 53) (t := 51) (off := 10) (by rw [row53]) (by simp) h
  rw [k37] at tD
  obtain ⟨hla10, ma10, ya10, ta10⟩ := field_part (e := 51) (t := 2) (off := 0) (by rw [row51]) (by simp) tD
  rw [k2] at ta10
  obtain ⟨x10, e10, w10⟩ := int_in u2 ta10
  obtain ⟨hla11, ma11, ya11, ta11⟩ := field_part (e := 51) (t := 2) (off := 1) (by rw [row51]) (by simp) tD
  rw [k2] at ta11
  obtain ⟨x11, e11, w11⟩ := int_in u2 ta11
  obtain ⟨hla12, ma12, ya12, ta12⟩ := field_part (e := 51) (t := 2) (off := 2) (by rw [row51]) (by simp) tD
  rw [k2] at ta12
  obtain ⟨x12, e12, w12⟩ := int_in u2 ta12
  obtain ⟨hla13, ma13, ya13, ta13⟩ := field_part (e := 53) (t := 28) (off := 13) (by rw [row53]) (by simp) h
  rw [k26] at ta13
  obtain ⟨x13, e13, w13⟩ := int_in u26 ta13
  obtain ⟨hlPp, mPp, yPp, tPp⟩ := field_part (e := 53) (t := 51) (off := 14) (by rw [row53]) (by simp) h
  rw [k37] at tPp
  obtain ⟨hla14, ma14, ya14, ta14⟩ := field_part (e := 51) (t := 2) (off := 0) (by rw [row51]) (by simp) tPp
  rw [k2] at ta14
  obtain ⟨x14, e14, w14⟩ := int_in u2 ta14
  obtain ⟨hla15, ma15, ya15, ta15⟩ := field_part (e := 51) (t := 2) (off := 1) (by rw [row51]) (by simp) tPp
  rw [k2] at ta15
  obtain ⟨x15, e15, w15⟩ := int_in u2 ta15
  obtain ⟨hla16, ma16, ya16, ta16⟩ := field_part (e := 51) (t := 2) (off := 2) (by rw [row51]) (by simp) tPp
  rw [k2] at ta16
  obtain ⟨x16, e16, w16⟩ := int_in u2 ta16
  obtain ⟨hlVv, mVv, yVv, tVv⟩ := field_part (e := 53) (t := 51) (off := 17) (by rw [row53]) (by simp) h
  rw [k37] at tVv
  obtain ⟨hla17, ma17, ya17, ta17⟩ := field_part (e := 51) (t := 2) (off := 0) (by rw [row51]) (by simp) tVv
  rw [k2] at ta17
  obtain ⟨x17, e17, w17⟩ := int_in u2 ta17
  obtain ⟨hla18, ma18, ya18, ta18⟩ := field_part (e := 51) (t := 2) (off := 1) (by rw [row51]) (by simp) tVv
  rw [k2] at ta18
  obtain ⟨x18, e18, w18⟩ := int_in u2 ta18
  obtain ⟨hla19, ma19, ya19, ta19⟩ := field_part (e := 51) (t := 2) (off := 2) (by rw [row51]) (by simp) tVv
  rw [k2] at ta19
  obtain ⟨x19, e19, w19⟩ := int_in u2 ta19
  obtain ⟨hla20, ma20, ya20, ta20⟩ := field_part (e := 53) (t := 23) (off := 20) (by rw [row53]) (by simp) h
  rw [k38] at ta20
  obtain ⟨x20, e20, w20⟩ := int_in u38 ta20
  obtain ⟨hla21, ma21, ya21, ta21⟩ := field_part (e := 53) (t := 23) (off := 21) (by rw [row53]) (by simp) h
  rw [k38] at ta21
  obtain ⟨x21, e21, w21⟩ := int_in u38 ta21
  obtain ⟨hlB, mB, yB, tB⟩ := field_part (e := 53) (t := 25) (off := 22) (by rw [row53]) (by simp) h
  rw [k25] at tB
  obtain ⟨q, cq, ys, eB, hle, hmx, hr, hby, -⟩ := bytes_in u25 u5 k5 tB
  change [c0] = _ at e0
  obtain rfl := (List.cons.inj e0).1
  change [c1] = _ at e1
  obtain rfl := (List.cons.inj e1).1
  change [c2] = _ at e2
  obtain rfl := (List.cons.inj e2).1
  change [c3] = _ at e3
  obtain rfl := (List.cons.inj e3).1
  change [c4] = _ at e4
  obtain rfl := (List.cons.inj e4).1
  change [c5] = _ at e5
  obtain rfl := (List.cons.inj e5).1
  change [c6] = _ at e6
  obtain rfl := (List.cons.inj e6).1
  change [c7] = _ at e7
  obtain rfl := (List.cons.inj e7).1
  change [c8] = _ at e8
  obtain rfl := (List.cons.inj e8).1
  change [c9] = _ at e9
  obtain rfl := (List.cons.inj e9).1
  change [c10] = _ at e10
  obtain rfl := (List.cons.inj e10).1
  change [c11] = _ at e11
  obtain rfl := (List.cons.inj e11).1
  change [c12] = _ at e12
  obtain rfl := (List.cons.inj e12).1
  change [c13] = _ at e13
  obtain rfl := (List.cons.inj e13).1
  change [c14] = _ at e14
  obtain rfl := (List.cons.inj e14).1
  change [c15] = _ at e15
  obtain rfl := (List.cons.inj e15).1
  change [c16] = _ at e16
  obtain rfl := (List.cons.inj e16).1
  change [c17] = _ at e17
  obtain rfl := (List.cons.inj e17).1
  change [c18] = _ at e18
  obtain rfl := (List.cons.inj e18).1
  change [c19] = _ at e19
  obtain rfl := (List.cons.inj e19).1
  change [c20] = _ at e20
  obtain rfl := (List.cons.inj e20).1
  change [c21] = _ at e21
  obtain rfl := (List.cons.inj e21).1
  change [c22] = _ at eB
  obtain rfl := (List.cons.inj eB).1
  exact ⟨⟨x0, x1, x2, x3, x4, x5, x6, x7, x8, x9, x10, x11, x12, x13, x14, x15, x16, x17, x18, x19, x20, x21, ys⟩, q, cq, rfl, ⟨wf_64 w0, wf_16 w1, wf_16 w2, wf_8 w3, wf_i8 w4, wf_i8 w5, wf_64 w6, wf_16 w7, wf_64 w8, wf_64 w9, wf_64 w10, wf_64 w11, wf_64 w12, wf_64 w13, wf_64 w14, wf_64 w15, wf_64 w16, wf_64 w17, wf_64 w18, wf_64 w19, wf_32 w20, wf_32 w21, hr⟩, hle, hmx, hby⟩
theorem msgs_in {p : Option Addr} {n : Nat} (h : ∀ i, i < n → ∃ a cs, p = some a ∧ W.cells? 0 (a.add (i * Tryd.prog.cellsOf 53)) (Tryd.prog.cellsOf 53) = some cs ∧ ∃ m y, DataW.trod enc Tryd.prog W 0 (fun _ => true) true m 53 cs = some y) :
    ∃ ms : List Msg, n = ms.length ∧ In W p ms := by
  have k40 : Tryd.prog.cellsOf 53 = 23 := by kernel_rfl
  rw [k40] at h
  have key : ∀ i, ∃ x : Msg × Option Addr × Nat, i < n → ∃ a, p = some a ∧ cellsAt W (a.add (i * 23)) 23 = some (msgC x.1 x.2.1 x.2.2) ∧ Mok x.1 ∧ x.1.bytes.length ≤ x.2.2 ∧ BytesAt W x.2.1 x.1.bytes := by
    intro i
    by_cases hi : i < n
    · obtain ⟨a, cs, rfl, hcs, m, y, hy⟩ := h i hi
      obtain ⟨M, q, cq, rfl, h1, h2, h3, h4⟩ := msg_in hy
      obtain ⟨-, hlen, hcell⟩ := World.cells?_some hcs
      refine ⟨(M, q, cq), fun _ => ⟨a, rfl, ?_, h1, h2, h4⟩⟩
      exact cellsAt_of (l := msgC M q cq) fun j v hj => by
        have hjl : j < 23 := (List.getElem?_eq_some_iff.1 hj).1
        have := hcell j hjl
        rw [hj] at this
        exact this
    · exact ⟨(blank 0, none, 0), fun h => absurd h hi⟩
  obtain ⟨f, hf⟩ : ∃ f : Nat → Msg × Option Addr × Nat, ∀ i, i < n → ∃ a, p = some a ∧ cellsAt W (a.add (i * 23)) 23 = some (msgC (f i).1 (f i).2.1 (f i).2.2) ∧ Mok (f i).1 ∧ (f i).1.bytes.length ≤ (f i).2.2 ∧ BytesAt W (f i).2.1 (f i).1.bytes :=
    ⟨fun i => Classical.choose (key i), fun i => Classical.choose_spec (key i)⟩
  have hg : ∀ (j : Nat) (m : Msg), ((List.range n).map fun i => (f i).1)[j]? = some m → j < n ∧ m = (f j).1 := by
    intro j m hj
    rw [List.getElem?_map, Option.map_eq_some_iff] at hj
    obtain ⟨i, hi, rfl⟩ := hj
    have hjl : j < n := by have := (List.getElem?_eq_some_iff.1 hi).1; simpa using this
    rw [List.getElem?_range hjl] at hi
    cases hi
    exact ⟨hjl, rfl⟩
  refine ⟨(List.range n).map fun i => (f i).1, by simp, ?_, ?_, ?_⟩
  · intro j m hj
    obtain ⟨hjl, rfl⟩ := hg j m hj
    obtain ⟨a, rfl, hc, h1, h2, h3⟩ := hf j hjl
    refine ⟨a, _, _, rfl, ?_, hc, h3, fun ad e hne => ?_⟩
    · have := (cellsAt_length hc).2 0 _ rfl
      have := World.block_lt_of_cell? W _ this
      rw [add_block, add_block] at this; exact this
    · obtain ⟨y, hy⟩ : ∃ y, (f j).1.bytes[0]? = some y := by
        cases hb : (f j).1.bytes with
        | nil => exact absurd hb hne
        | cons y l => exact ⟨y, rfl⟩
      obtain ⟨ad', e', hc'⟩ := h3 0 y hy
      rw [e] at e'; cases e'
      have := World.block_lt_of_cell? W _ hc'
      rw [add_block] at this; exact this
  · intro j m q cq ad hj hp hc
    obtain ⟨hjl, rfl⟩ := hg j m hj
    obtain ⟨a, e, hc', h1, h2, h3⟩ := hf j hjl
    rw [hp] at e; cases e
    rw [hc'] at hc
    obtain ⟨-, e2⟩ := msgC_inj (Option.some.inj hc)
    rw [← e2]; exact h2
  · intro m hm
    obtain ⟨i, hi, rfl⟩ := List.mem_map.1 hm
    obtain ⟨a, e, hc', h1, h2, h3⟩ := hf i (by simpa using hi)
    exact h1
theorem agg_of {P : Program} {v : Value} {base e : Nat} {l : List (Nat × TypeId)} (he : (row P e).k = .struct l) (hv : Value.okWide P W .any base e v) : ∃ cs, v = .agg cs := by
  obtain ⟨i, d, hi, hd, hr⟩ := row_spec (P := P) (t := e) (by rw [he]; simp)
  rw [hr] at he
  cases d <;> simp [kOf] at he
  obtain ⟨cs, h, -⟩ := okWide_struct hd hv
  exact ⟨cs, h⟩
set_option maxRecDepth 100000 in
theorem msg_arg {v : Value} {d : DataW H} {ps : List MemPlace} {base : Nat} (hv : Value.okWide Tryd.prog W .any base 53 v) (h : DataW.Trod enc Tryd.prog W 0 (fun _ => true) true 53 v d ps) :
    ∃ (m : Msg) (q : Option Addr) (c : Nat), v = .agg (msgC m q c).toArray ∧ Mok m ∧ m.bytes.length ≤ c ∧ BytesAt W q m.bytes := by
  obtain ⟨cs, rfl⟩ := agg_of (by rw [row53]) hv
  obtain ⟨fuel, hf⟩ := h
  obtain ⟨M, q, c, hc, h1, h2, h3, h4⟩ := msg_in hf
  refine ⟨M, q, c, ?_, h1, h2, h4⟩
  rw [← hc]
  rfl
theorem bytes_arg {p : Option Addr} {n : Nat} (h : ∀ i, i < n → ∃ a cs, p = some a ∧ W.cells? 0 (a.add (i * Tryd.prog.cellsOf 5)) (Tryd.prog.cellsOf 5) = some cs ∧ ∃ m y, DataW.trod enc Tryd.prog W 0 (fun _ => true) true m 5 cs = some y) :
    ∃ ys : List Int, n = ys.length ∧ BytesAt W p ys ∧ ∀ y ∈ ys, 0 ≤ y ∧ y < 256 := by
  have u5 := int_of_row (P := Tryd.prog) (t := 5) (by rw [row5])
  have k5 : Tryd.prog.cellsOf 5 = 1 := by kernel_rfl
  obtain ⟨ss, hss⟩ := ints_of u5 k5 h
  refine ⟨(List.range n).map ss, by simp, fun j y hj => ?_, fun y hy => ?_⟩
  · rw [List.getElem?_map, Option.map_eq_some_iff] at hj
    obtain ⟨i, hi, rfl⟩ := hj
    have hjl : j < n := by have := (List.getElem?_eq_some_iff.1 hi).1; simpa using this
    rw [List.getElem?_range hjl] at hi
    cases hi
    exact (hss _ hjl).1
  · obtain ⟨i, hi, rfl⟩ := List.mem_map.1 hy
    exact wf_8 (hss i (by simpa using hi)).2
end Go.Proofs.YtipikchkbmgloaaDoor
namespace Go.Proofs.YtipikchkbmgloaaDoor
set_option linter.unusedSimpArgs false
set_option linter.unusedVariables false
open Go Go.RowKit Go.ChangeShapes Go.WideShapes VC
section
variable {H : Type} {enc : TypeId × Value → H} {P : Program} {W : World}
theorem field_w {e t : TypeId} {l : List (Nat × TypeId)} {off j m : Nat} {cs : List Value} {y : DataW H × List MemPlace} (he : (row P e).k = .struct l) (hl : l[j]? = some (off, t))
    (h : DataW.trod enc P W 0 (fun _ => true) true m e cs = some y) : ∃ m' y', DataW.trod enc P W 0 (fun _ => true) true m' t ((cs.drop off).take (P.cellsOf t)) = some y' ∧ ∀ x ∈ y'.1.weights P t, x ∈ y.1.weights P e := by
  obtain ⟨i, d, hi, hd, hr⟩ := row_spec (P := P) (t := e) (by rw [he]; simp)
  rw [hr] at he
  cases d <;> simp [kOf] at he
  rename_i fs
  obtain ⟨xs, n, rfl, hy, hcl, hxl, hf⟩ := DataW.trod_struct hd h
  rw [← he, List.getElem?_map, Option.map_eq_some_iff] at hl
  obtain ⟨f, hfj, hfe⟩ := hl
  have hj' : fs[j]? = some f := by simpa using hfj
  have h2 := hf j f hj'
  have hjl : j < xs.length := by have := (Array.getElem?_eq_some_iff.1 hj').1; omega
  rw [List.getElem?_eq_getElem hjl] at h2
  cases hfe
  refine ⟨n, _, h2, fun x hx => ?_⟩
  rw [hy]
  simp only [DataW.weights, hd]
  exact DataW.weights_mem_each (j := j) (by rw [List.getElem?_map, hfj]; rfl) (by rw [List.getElem?_map, List.getElem?_eq_getElem hjl]; rfl) x hx
end
variable {H : Type} {enc : TypeId × Value → H} {W : World}
set_option maxRecDepth 100000 in
theorem msg_size {m : Msg} {q : Option Addr} {c : Nat} {d : DataW H} {ps : List MemPlace} (h : DataW.Trod enc Tryd.prog W 0 (fun _ => true) true 53 (.agg (msgC m q c).toArray) d ps) (hw : ∀ x ∈ d.weights Tryd.prog 53, x ≤ reachBytes) : m.bytes.length ≤ 140737488351232 := by
  obtain ⟨fuel, hf⟩ := h
  obtain ⟨m', y', hy, hin⟩ := field_w (e := 53) (t := 25) (off := 22) (j := 12) (by rw [row53]) rfl hf
  have k25 : Tryd.prog.cellsOf 25 = 1 := by kernel_rfl
  have k5 : Tryd.prog.cellsOf 5 = 1 := by kernel_rfl
  have u5 := int_of_row (P := Tryd.prog) (t := 5) (by rw [row5])
  have u25 := slice_of_row (P := Tryd.prog) (t := 25) (e := 5) (by rw [row25])
  have b5 : Tryd.prog.bytesOf 5 = 1 := by kernel_rfl
  rw [k25] at hy
  obtain ⟨p, c', ys, e, hle, -, -, -, hd⟩ := bytes_in u25 u5 k5 hy
  change [Value.slice q m.bytes.length c] = _ at e
  have e1 := (List.cons.inj e).1
  simp only [Value.slice.injEq] at e1
  rcases hd with ⟨_, h0⟩ | ⟨el, sp, hel, hc, hl⟩
  · omega
  · have := hw _ (hin ((el.length + sp.length) * Tryd.prog.bytesOf 5) (by rw [hel]; simp [DataW.weights, u25]))
    rw [b5] at this
    have h3 : reachBytes = 140737488351232 := rfl
    omega
end Go.Proofs.YtipikchkbmgloaaDoor
namespace Go.Proofs.YtipikchkbmgloaaDoor
set_option linter.unusedSimpArgs false
set_option linter.unusedVariables false
open Go Go.RowKit Go.ChangeShapes Go.WideShapes VC
section
variable {H : Type} {enc : TypeId × Value → H} {P : Program} {W : World}
theorem weights_all {e : TypeId} : ∀ {ds : List (DataW H)} {i : Nat} {d : DataW H}, ds[i]? = some d → ∀ x ∈ d.weights P e, x ∈ DataW.weightsAll P e ds := by
  intro ds
  induction ds with
  | nil => intro i d h; simp at h
  | cons d0 ds ih =>
    intro i d h x hx
    simp only [DataW.weightsAll, List.mem_append]
    cases i with
    | zero =>
      simp only [List.getElem?_cons_zero, Option.some.injEq] at h
      subst h
      exact .inl hx
    | succ i => exact .inr (ih (by simpa using h) x hx)
theorem slice_readsW {t e : TypeId} {v : Value} {d : DataW H} {ps : List MemPlace} (ht : P.underlying t = some (.slice e)) {base : Nat} (hv : Value.okWide P W .any base t v) (h : DataW.Trod enc P W 0 (fun _ => true) true t v d ps) :
    ∃ p n c, v = .slice p n c ∧ n ≤ c ∧ ∀ i, i < n → ∃ a cs, p = some a ∧ W.cells? 0 (a.add (i * P.cellsOf e)) (P.cellsOf e) = some cs ∧ ∃ m y, DataW.trod enc P W 0 (fun _ => true) true m e cs = some y ∧ ∀ x ∈ y.1.weights P e, x ∈ d.weights P t := by
  obtain ⟨a0, len0, cap0, rfl⟩ := Go.WideShapes.okWide_slice ht hv
  obtain ⟨fuel, hf⟩ := h
  rcases DataW.trod_slice ht hf with ⟨h1, h2⟩ | ⟨a, len, cap, el, rest, m, hm, h1, h2, _, hl, hc, hlen, hel, hsp, _⟩
  · simp [Value.cells] at h1
    obtain ⟨rfl, rfl, rfl⟩ := h1
    exact ⟨_, _, _, rfl, Nat.le_refl _, fun i hi => by omega⟩
  · simp [Value.cells] at h1
    obtain ⟨rfl, rfl, rfl⟩ := h1
    refine ⟨_, _, _, rfl, hl, fun i hi => ?_⟩
    have hi' : i < el.length := by omega
    have := hel i hi
    rw [List.getElem?_eq_getElem hi', Option.bind_eq_some_iff] at this
    obtain ⟨cs, hcs, hy⟩ := this
    refine ⟨a, cs, rfl, hcs, m, _, hy, fun x hx => ?_⟩
    have hd : d = _ := congrArg Prod.fst h2
    rw [hd]
    simp only [DataW.weights, ht, List.mem_cons, List.mem_append]
    exact .inr (.inl (weights_all (i := i) (by rw [List.getElem?_map, List.getElem?_eq_getElem hi']; rfl) x hx))
end
variable {H : Type} {enc : TypeId × Value → H} {W : World}
set_option maxRecDepth 100000 in
theorem msg_inW {m : Nat} {cs : List Value} {y : DataW H × List MemPlace} {M : Msg} {q : Option Addr} {c : Nat} (h : DataW.trod enc Tryd.prog W 0 (fun _ => true) true m 53 cs = some y) (hcs : cs = msgC M q c) (hw : ∀ x ∈ y.1.weights Tryd.prog 53, x ≤ reachBytes) : M.bytes.length ≤ 140737488351232 := by
  subst hcs
  exact msg_size (d := y.1) (ps := y.2) ⟨m, h⟩ hw
set_option maxRecDepth 100000 in
theorem msgs_arg {v : Value} {d : DataW H} {ps : List MemPlace} {base : Nat} (hv : Value.okWide Tryd.prog W .any base 24 v) (h : DataW.Trod enc Tryd.prog W 0 (fun _ => true) true 24 v d ps) (hw : ∀ x ∈ d.weights Tryd.prog 24, x ≤ reachBytes) :
    ∃ (p : Option Addr) (c : Nat) (ms : List Msg), v = .slice p ms.length c ∧ ms.length ≤ c ∧ In W p ms ∧ ∀ m ∈ ms, m.bytes.length ≤ 140737488351232 := by
  obtain ⟨p, n, c, rfl, hnc, hel⟩ := slice_readsW (slice_of_row (P := Tryd.prog) (t := 24) (e := 53) (by rw [row24])) hv h
  obtain ⟨ms, rfl, hin⟩ := msgs_in (W := W) (enc := enc) (p := p) (n := n) fun i hi => by
    obtain ⟨a, cs, e, hcs, m, y, hy, -⟩ := hel i hi
    exact ⟨a, cs, e, hcs, m, y, hy⟩
  refine ⟨p, c, ms, rfl, hnc, hin, fun M hM => ?_⟩
  obtain ⟨i, hi⟩ := List.getElem?_of_mem hM
  have hil : i < ms.length := (List.getElem?_eq_some_iff.1 hi).1
  obtain ⟨a, cs, rfl, hcs, m, y, hy, hyw⟩ := hel i hil
  obtain ⟨ad, q, cq, e, -, hc, -, -⟩ := hin.rd i M hi
  cases e
  have k53 : Tryd.prog.cellsOf 53 = 23 := by kernel_rfl
  rw [k53] at hcs
  obtain ⟨-, hlen, hcell⟩ := World.cells?_some hcs
  have ecs : cs = msgC M q cq := by
    refine List.ext_getElem? fun j => ?_
    by_cases hj : j < 23
    · have h1 := hcell j hj
      have h2 : (msgC M q cq)[j]? = some ((msgC M q cq)[j]'(by simpa [msgC] using hj)) := List.getElem?_eq_getElem _
      have h3 := (cellsAt_length hc).2 j _ h2
      rw [h2, ← h1]
      exact h3
    · rw [List.getElem?_eq_none (by omega), List.getElem?_eq_none (by simp [msgC]; omega)]
  exact msg_inW hy ecs fun x hx => hw x (hyw x hx)
theorem weights_at {P : Program} {fn : Func} {ds : List (DataW H)} (h : Fits P fn H ds) {j : Nat} {t : TypeId} {d : DataW H} (ht : fn.params.toList[j]? = some t) (hd : ds[j]? = some d) : ∀ x ∈ d.weights P t, x ≤ reachBytes := fun x hx => by
  have := List.all_eq_true.1 h x (DataW.weights_mem_each ht hd x hx)
  simpa using this
end Go.Proofs.YtipikchkbmgloaaDoor
