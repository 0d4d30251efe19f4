/- Each operation does what its condition says.  Conditions: none (a general text, over any program). -/
import Derived.Test.YtlhgibiffekpfaaVCSound
namespace Go.Proofs.Ytlhgibiffekpfaa.VC
set_option linter.unusedSimpArgs false
set_option linter.unusedVariables false
open Go Go.RowKit

section
variable {P : Program} {w : World} {N : Nat}

/-- An operation that yields a value (no call of a function, no bare store). -/
def quietOp : Op → Bool
  | .store .. | .ready _ | .mapUpdate .. | .insert .. | .entryStore .. => false
  | .call { callee := .builtin _, .. } => true
  | .call _ => false
  | _ => true
def Out (quiet : Bool) (P : Program) (w : World) (K : Value → World → Prop) (r : Result Next) : Prop :=
  (∃ v w', r = .ok (.value v) w' ∧ K v w') ∨ (quiet = false ∧ ((∃ w', r = .ok .skip w' ∧ K undef w') ∨ ∃ f args, r = .ok (.enter f args) w ∧ Calls P f args w fun e w' => ∃ v, e = .returned v ∧ K v w'))
theorem out_v {q : Bool} {K : Value → World → Prop} {r : Result Next} {v : Value} {w' : World} (hr : r = .ok (.value v) w') (h : K v w') : Out q P w K r := .inl ⟨_, _, hr, h⟩
theorem out_u {K : Value → World → Prop} {r : Result Next} {w' : World} (hr : r = .ok .skip w') (h : K undef w') : Out false P w K r := .inr ⟨rfl, .inl ⟨_, hr, h⟩⟩
theorem out_c {q : Bool} (hq : q = false) {K : Value → World → Prop} {r : Result Next} {f : FuncId} {args : Array Value} (hr : r = .ok (.enter f args) w) (h : Calls P f args w fun e w' => ∃ v, e = .returned v ∧ K v w') : Out q P w K r := .inr ⟨hq, .inr ⟨_, _, hr, h⟩⟩
theorem run_v {s : Sem Value} {v : Value} {w' : World} (h : s.run P w = .ok v w') : (do pure (.value (← s)) : Sem Next).run P w = .ok (.value v) w' := by simp [h]
theorem run_u {s : Sem Unit} {w' : World} (h : s.run P w = .ok () w') : (do s; pure .skip : Sem Next).run P w = .ok .skip w' := by simp [h]

theorem fieldAt_run {s : TypeId} {fs : List (Nat × TypeId)} {f : Nat} {fd : Nat × TypeId} {a : Addr} (hk : (row P s).k = .struct fs) (hf : fs[f]? = some fd) (hb : (row P fd.2).k ≠ .bad) (hz : (row P fd.2).size ≠ 0) :
    (Instr.fieldAt s (.pointer (some a)) f).run P w = .ok (.pointer (some (a.add fd.1))) w := by
  obtain ⟨i, d, hi, hd, hr⟩ := row_spec (P := P) (t := s) (by rw [hk]; simp)
  rw [hr] at hk
  cases d <;> simp [kOf] at hk
  rename_i fields
  subst hk
  simp only [List.getElem?_map, Option.map_eq_some_iff] at hf
  obtain ⟨g, hg, rfl⟩ := hf
  obtain ⟨i', d', hi', hd', hr'⟩ := row_spec hb
  rw [hr'] at hz
  simp only at hz
  have hg' : fields[f]? = some g := by simpa using hg
  simp [Instr.fieldAt, run_underlying hd, hg', Instr.sureAddr, fieldPlace, run_size hi', hz]
theorem field_run {t : TypeId} {fs : List (Nat × TypeId)} {f : Nat} {fd : Nat × TypeId} {cs : List Value} {K : Value → Prop} (hk : (row P t).k = .struct fs) (hf : fs[f]? = some fd) (h : partC P fd.2 cs fd.1 K) :
    ∃ v, (Instr.field t (.agg cs.toArray) f).run P w = .ok v w ∧ K v := by
  obtain ⟨i, d, hi, hd, hr⟩ := row_spec (P := P) (t := t) (by rw [hk]; simp)
  rw [hr] at hk
  cases d <;> simp [kOf] at hk
  rename_i fields
  subst hk
  simp only [List.getElem?_map, Option.map_eq_some_iff] at hf
  obtain ⟨g, hg, rfl⟩ := hf
  have hg' : fields[f]? = some g := by simpa using hg
  obtain ⟨v, hv, hK⟩ := partC_run (w := w) h
  exact ⟨v, by simp [Instr.field, run_underlying hd, hg', asAgg, hv], hK⟩
theorem indexAt_slice {t el : TypeId} {k : IntKind} {i : Int} {a : Addr} {n c : Nat} (hk : (row P t).k = .slice el) (hb : (row P el).k ≠ .bad) (h0 : 0 ≤ i) (hn : i < n) :
    (Instr.indexAt t (.slice (some a) n c) (.int k i)).run P w = .ok (.pointer (some (a.add (i.toNat * (row P el).size)))) w := by
  obtain ⟨_, d, _, hd, hr⟩ := row_spec (P := P) (t := t) (by rw [hk]; simp)
  rw [hr] at hk
  cases d <;> simp [kOf] at hk
  subst hk
  obtain ⟨i', d', hi', hd', hr'⟩ := row_spec hb
  simp [Instr.indexAt, asIntOf, run_underlying hd, h0, hn, run_size hi', hr']
theorem indexAt_array {t el : TypeId} {k : IntKind} {i : Int} {a : Addr} {n : Nat} (hk : (row P t).k = .array n el) (hb : (row P el).k ≠ .bad) (h0 : 0 ≤ i) (hn : i < n) :
    (Instr.indexAt t (.pointer (some a)) (.int k i)).run P w = .ok (.pointer (some (a.add (i.toNat * (row P el).size)))) w := by
  obtain ⟨_, d, _, hd, hr⟩ := row_spec (P := P) (t := t) (by rw [hk]; simp)
  rw [hr] at hk
  cases d <;> simp [kOf] at hk
  obtain ⟨rfl, rfl⟩ := hk
  obtain ⟨i', d', hi', hd', hr'⟩ := row_spec hb
  simp [Instr.indexAt, Instr.sureAddr, asIntOf, run_underlying hd, h0, hn, run_size hi', hr']
theorem index_array {t el : TypeId} {k : IntKind} {i : Int} {cs : List Value} {n : Nat} {K : Value → Prop} (hk : (row P t).k = .array n el) (hb : (row P el).k ≠ .bad) (h0 : 0 ≤ i) (hn : i < n)
    (h : partC P el cs (i.toNat * (row P el).size) K) : ∃ v, (Instr.index t (.agg cs.toArray) (.int k i)).run P w = .ok v w ∧ K v := by
  obtain ⟨_, d, _, hd, hr⟩ := row_spec (P := P) (t := t) (by rw [hk]; simp)
  rw [hr] at hk
  cases d <;> simp [kOf] at hk
  obtain ⟨rfl, rfl⟩ := hk
  obtain ⟨i', d', hi', hd', hr'⟩ := row_spec hb
  obtain ⟨v, hv, hK⟩ := partC_run (w := w) h
  rw [hr'] at hv
  exact ⟨v, by simp [Instr.index, asIntOf, run_underlying hd, h0, hn, run_size hi', hv], hK⟩
theorem makeIface_run {t : TypeId} {x : Value} (hb : (row P t).k ≠ .bad) (hi : (row P t).k ≠ .iface) : (Instr.makeInterface t x).run P w = .ok (.iface t x) w := by
  obtain ⟨_, d, _, hd, hr⟩ := row_spec hb
  rw [hr] at hi
  unfold Instr.makeInterface
  simp only [Sem.run_bind, run_underlying hd, Result.andThen_ok]
  cases d <;> first | (simp [kOf] at hi; done) | rfl
theorem convert_int {s d : TypeId} {k k' k'' : IntKind} {n : Int} (hs : (row P s).k = .int k) (hd : (row P d).k = .int k') : (convert s d (.int k'' n)).run P w = .ok (.int k' (k'.wrap n)) w := by
  obtain ⟨_, ds, _, hds, hr⟩ := row_spec (P := P) (t := s) (by rw [hs]; simp)
  obtain ⟨_, dd, _, hdd, hr'⟩ := row_spec (P := P) (t := d) (by rw [hd]; simp)
  rw [hr] at hs; rw [hr'] at hd
  cases ds <;> simp [kOf] at hs
  cases dd <;> simp [kOf] at hd
  subst hs hd
  simp [convert, run_underlying hds, run_underlying hdd, Conv.intToInt]

theorem sized_cells {t : TI} {v : Value} (h : sized t v = true) : v.cells.toList = cellsOf t.agg v ∧ v.cells.size = t.size := by
  unfold sized at h
  unfold cellsOf
  split at h
  · simp only [beq_iff_eq, Array.length_toList] at h; exact ⟨rfl, h⟩
  · simp only [Bool.and_eq_true, beq_iff_eq] at h
    cases v <;> simp [Value.oneCell'] at h <;> exact ⟨rfl, h.symm⟩
theorem fillL_fill (place : Nat → Option (Nat × TI)) : ∀ (parts : List (Nat × Value)) (cells : List Value) {r : List Value}, fillL place cells parts = some r → fillOk place parts = true →
    Instr.fill (fun i => (place i).map fun p => (p.1, p.2.size)) cells.toArray parts = some r.toArray := by
  intro parts
  induction parts with
  | nil => intro cells r h _; simp [fillL] at h; subst h; simp [Instr.fill]
  | cons p parts ih =>
    obtain ⟨i, v⟩ := p
    intro cells r h hok
    unfold fillL at h
    unfold fillOk at hok
    unfold Instr.fill
    cases hp : place i with
    | none => simp only [hp] at h; cases h
    | some os =>
      obtain ⟨off, t⟩ := os
      simp only [hp, Bool.and_eq_true] at h hok
      simp only [Option.map_some]
      split at h
      case h_2 => cases h
      · rename_i hn
        simp only [Nat.ble_eq] at hn
        obtain ⟨h0, h1⟩ := sized_cells hok.1
        have h2 : ¬ off + t.size > cells.length := by omega
        rw [if_neg (by simp [h1]; omega)]
        rw [← h0] at h
        generalize t.size = size at h h1 h2 hn ⊢
        have hok := hok.2
        rw [← ih _ h hok]
        congr 1
        subst h1
        clear ih h hn h0
        have key : ∀ (l : List Value) (j : Nat) (cs : List Value), off + j + l.length ≤ cs.length →
            (l.zipIdx j).foldl (fun (cs : Array Value) (x : Value × Nat) => cs.setIfInBounds (off + x.2) x.1) cs.toArray = (cs.take (off + j) ++ l ++ cs.drop (off + j + l.length)).toArray := by
          intro l
          induction l with
          | nil => intro j cs _; simp
          | cons x l ih =>
            intro j cs hl
            simp only [List.zipIdx_cons, List.foldl_cons, List.setIfInBounds_toArray]
            simp only [List.length_cons] at hl
            rw [ih (j + 1) (cs.set (off + j) x) (by simp; omega)]
            congr 1
            rw [show off + (j + 1) = off + j + 1 from by omega, List.take_succ_eq_append_getElem (by simp; omega), List.take_set_of_le (by omega), List.getElem_set_self, List.drop_set_of_lt (by omega)]
            simp only [List.length_cons, List.append_assoc, List.cons_append, List.nil_append]
            rw [show off + j + 1 + l.length = off + j + (l.length + 1) from by omega]
        have := key v.cells.toList 0 cells (by simp; omega)
        simp only [Nat.add_zero, Array.length_toList] at this
        rw [← this, ← Array.foldl_toList, Array.toList_zipIdx]
theorem mapM_places (fields : Array Field) : ∀ (w : World), (∀ f ∈ fields, (row P f.type).k ≠ .bad) → 
    (fields.mapM fun f => do pure (f.offset, ← sizeOf f.type) : Sem (Array (Nat × Nat))).run P w = .ok (fields.map fun f => (f.offset, (row P f.type).size)) w := by
  intro w h
  rw [Array.mapM_eq_mapM_toList]
  have key : ∀ (l : List Field), (∀ f ∈ l, (row P f.type).k ≠ .bad) → (l.mapM fun f => do pure (f.offset, ← sizeOf f.type) : Sem (List (Nat × Nat))).run P w = .ok (l.map fun f => (f.offset, (row P f.type).size)) w := by
    intro l
    induction l with
    | nil => intro _; simp
    | cons f l ih =>
      intro hl
      obtain ⟨i, d, hi, hd, hr⟩ := row_spec (hl f (by simp))
      have hih := ih (fun g hg => hl g (by simp [hg]))
      simp only [List.mapM_cons, Sem.run_bind, run_size hi, Result.andThen_ok, Sem.run_pure, hih]
      simp [hr]
  have := key fields.toList (fun f hf => h f (by simpa using hf))
  simp only [Sem.run_map, this, Result.andThen_ok]
  congr 1
  apply Array.ext'
  simp

theorem build_struct {t : TypeId} {fs : List (Nat × TypeId)} {z : Value} {parts : List (Nat × Value)} {cs : List Value} (hk : (row P t).k = .struct fs) (hb : ∀ f ∈ fs, (row P f.2).k ≠ .bad) (hz : (row P t).zero = some z)
    (hf : fillL (fieldPlaces P fs) z.cells.toList parts = some cs) (hok : fillOk (fieldPlaces P fs) parts = true) : (Instr.build t parts.toArray).run P w = .ok (.agg cs.toArray) w := by
  obtain ⟨i, d, hi, hd, hzz, hr⟩ := row_zero hz
  rw [hr] at hk
  cases d <;> simp [kOf] at hk
  rename_i fields
  subst hk
  have hpl := mapM_places (P := P) fields w (fun f hf => by have := hb (f.offset, f.type) (by simp; exact ⟨f, hf, rfl, rfl⟩); exact this)
  have hfill := fillL_fill _ _ _ hf hok
  have hp : (fun x => (fields.map fun f => (f.offset, (row P f.type).size))[x]?) = fun i => (fieldPlaces P (fields.toList.map fun f => (f.offset, f.type)) i).map fun p => (p.1, p.2.size) := by
    funext x
    simp [fieldPlaces, Option.map_map, Function.comp_def]
  unfold Instr.build
  simp only [Sem.run_bind, run_zero hi hzz, Result.andThen_ok, run_underlying hd]
  simp only [hpl, Result.andThen_ok]
  rw [hp]
  have h2 : Instr.fill (fun i => (fieldPlaces P (List.map (fun f => (f.offset, f.type)) fields.toList) i).map fun p => (p.1, p.2.size)) z.cells parts = some cs.toArray := by simpa using hfill
  rw [h2]
  rfl
theorem build_array {t el : TypeId} {n : Nat} {z : Value} {parts : List (Nat × Value)} {cs : List Value} (hk : (row P t).k = .array n el) (hb : (row P el).k ≠ .bad) (hz : (row P t).zero = some z)
    (hf : fillL (elemPlaces P el) z.cells.toList parts = some cs) (hok : fillOk (elemPlaces P el) parts = true) : (Instr.build t parts.toArray).run P w = .ok (.agg cs.toArray) w := by
  obtain ⟨i, d, hi, hd, hzz, hr⟩ := row_zero hz
  rw [hr] at hk
  cases d <;> simp [kOf] at hk
  obtain ⟨rfl, rfl⟩ := hk
  obtain ⟨i', d', hi', hd', hr'⟩ := row_spec hb
  have hfill := fillL_fill _ _ _ hf hok
  simp only [elemPlaces, Option.map_some, hr'] at hfill
  unfold Instr.build
  simp only [Sem.run_bind, run_zero hi hzz, Result.andThen_ok, run_underlying hd, run_size hi']
  have h2 : Instr.fill (fun i => some (i * i'.size, i'.size)) z.cells parts = some cs.toArray := by simpa using hfill
  rw [h2]
  rfl
theorem callV_run {f : FuncId} {args : List Value} {K : Value → World → Prop} (h : callV P f args w K) : (callFunc f args.toArray).run P w = .ok (.enter f args.toArray) w ∧ Calls P f args.toArray w fun e w' => ∃ v, e = .returned v ∧ K v w' := by
  obtain ⟨⟨fn, hf, hn, hb⟩, hc⟩ := h
  refine ⟨?_, hc⟩
  simp only [callFunc, Sem.run_bind, run_program, Result.andThen_ok, hf, hn, hb, Bool.false_eq_true, if_false, Sem.run_pure]
theorem bShort_lenS {b : Builtin} {ts : List TypeId} {vs : List Value} {x : Value} (h : bShort P b ts vs = .lenS x) : b = .len ∧ ∃ t, ts = [t] ∧ vs = [x] ∧ ∃ el, (row P t).k = .slice el := by
  unfold bShort at h
  split at h
  · split at h <;> first | (cases h; done) | (cases h; exact ⟨rfl, _, rfl, rfl, _, by assumption⟩)
  · split at h <;> cases h
  · split at h <;> cases h
  · cases h
theorem bShort_lenT {b : Builtin} {ts : List TypeId} {vs : List Value} {x : Value} (h : bShort P b ts vs = .lenT x) : b = .len ∧ ∃ t, ts = [t] ∧ vs = [x] ∧ (row P t).k = .string := by
  unfold bShort at h
  split at h
  · split at h <;> first | (cases h; done) | (cases h; exact ⟨rfl, _, rfl, rfl, by assumption⟩)
  · split at h <;> cases h
  · split at h <;> cases h
  · cases h
theorem bShort_mx {b : Builtin} {ts : List TypeId} {vs : List Value} {x y : Value} (h : bShort P b ts vs = .mx x y) : b = .max ∧ vs = [x, y] := by
  unfold bShort at h
  split at h
  · split at h <;> cases h
  · split at h <;> first | (cases h; done) | (cases h; exact ⟨rfl, rfl⟩)
  · split at h <;> cases h
  · cases h
theorem bShort_mn {b : Builtin} {ts : List TypeId} {vs : List Value} {x y : Value} (h : bShort P b ts vs = .mn x y) : b = .min ∧ vs = [x, y] := by
  unfold bShort at h
  split at h
  · split at h <;> cases h
  · split at h <;> cases h
  · split at h <;> first | (cases h; done) | (cases h; exact ⟨rfl, rfl⟩)
  · cases h

theorem opv_out {o : Oper} {e : Env} {K : Value → World → Prop} (h : opv P N o.type e w K o.op) : Out (quietOp o.op) P w K ((execOp (ev N e) o).run P w) := by
  unfold execOp
  cases hop : o.op with
  | move x => rw [hop] at h; exact out_v rfl h
  | assign x => rw [hop] at h; exact out_v rfl h
  | pick c a b =>
    rw [hop] at h
    obtain ⟨t, ht, h⟩ := isB_ex h
    exact out_v (v := pickV t (ev N e a) (ev N e b)) (w' := w) (by cases t <;> simp [ht, asBool, pickV]) h
  | alloc t =>
    rw [hop] at h
    obtain ⟨z, hz, h⟩ := rd_ex h
    obtain ⟨i, d, hi, hd, hzz, hr⟩ := row_zero hz
    exact out_v (run_v (by simp [Instr.alloc, run_zero hi hzz, newVar, newRow])) (h _ _ rfl rfl)
  | box t x =>
    rw [hop] at h
    obtain ⟨_, hb, h⟩ := rd_ex h
    obtain ⟨h0, h1⟩ := sized_cells (gd_some hb)
    rw [← h0] at h
    exact out_v (run_v (by simp [Instr.box, newVar, newRow])) (h _ _ rfl rfl)
  | build t parts =>
    rw [hop] at h
    simp only [opv] at h
    have hp : (parts.map fun x => (x.1, ev N e x.2)) = (parts.toList.map fun p => (p.1, ev N e p.2)).toArray := by apply Array.ext'; simp
    split at h
    · rename_i fs hk
      obtain ⟨_, hb, h⟩ := rd_ex h
      obtain ⟨z, hz, h⟩ := rd_ex h
      obtain ⟨cs, hcs, h⟩ := rd_ex h
      obtain ⟨_, hok, h⟩ := rd_ex h
      refine out_v (run_v ?_) h
      rw [hp]
      exact build_struct hk (fun f hf => VC.K.good_ne (by simpa using (List.all_eq_true.1 (gd_some hb)) f hf)) hz hcs (gd_some hok)
    · rename_i el hk
      obtain ⟨_, hb, h⟩ := rd_ex h
      obtain ⟨z, hz, h⟩ := rd_ex h
      obtain ⟨cs, hcs, h⟩ := rd_ex h
      obtain ⟨_, hok, h⟩ := rd_ex h
      refine out_v (run_v ?_) h
      rw [hp]
      exact build_array hk (VC.K.good_ne (gd_some hb)) hz hcs (gd_some hok)
    · exact h.elim
  | buildSlice t len parts => rw [hop] at h; obtain ⟨v, w', hr, h⟩ := h; exact out_v (run_v hr) h
  | insert t m k x => rw [hop] at h; obtain ⟨w', hr, h⟩ := h; exact out_u (run_u hr) h
  | load t a =>
    rw [hop] at h
    obtain ⟨ad, ha, h⟩ := isPtr_ex h
    obtain ⟨v, hv, h⟩ := loadC_run h
    exact out_v (run_v (by rw [ha]; exact hv)) h
  | store t a x =>
    rw [hop] at h
    obtain ⟨ad, ha, h⟩ := isPtr_ex h
    obtain ⟨_, hb, hw, h⟩ := rd_ex h
    have hb' := gd_some hb
    simp only [Bool.and_eq_true] at hb'
    obtain ⟨h0, h1⟩ := sized_cells hb'.2
    rw [← h0] at hw h
    exact out_u (run_u (by rw [ha]; exact store_run (VC.K.good_ne hb'.1) h1 hw)) (h _ rfl)
  | ready g => rw [hop] at h; obtain ⟨w', hr, h⟩ := h; exact out_u (run_u hr) h
  | waits g => rw [hop] at h; obtain ⟨v, w', hr, h⟩ := h; exact out_v (run_v hr) h
  | nilCheck x =>
    rw [hop] at h
    simp only [opv] at h
    unfold nilCV at h
    split at h
    · rename_i name first cpt hx
      split at h
      · rename_i r rest hr
        obtain ⟨t, v, rfl, h⟩ := isIf_ex h
        obtain ⟨hn, hK⟩ := h
        refine out_v (v := .func (.method name) first cpt) (w' := w) ?_ hK
        have e0 : first[0]? = some (.iface t v) := by rw [← Array.getElem?_toList, hr]; rfl
        simp only [hx, e0, Sem.run_bind, run_program, Result.andThen_ok, hn]
        rfl
      · exact h.elim
    · obtain ⟨v, hv, h⟩ := rd_ex h
      refine out_v (v := v) (w' := w) ?_ h
      unfold nilChk at hv
      split at hv <;> first | (cases hv; done) | skip
      all_goals (rename_i hx; cases hv; simp only [hx]; rfl)
  | binOp op t x y ty => rw [hop] at h; obtain ⟨v, hv, h⟩ := rd_ex h; exact out_v (run_v (bin_run x y hv)) h
  | unOp op t x => rw [hop] at h; obtain ⟨v, hv, h⟩ := rd_ex h; exact out_v (run_v (unV_run hv)) h
  | convert s d x =>
    rw [hop] at h
    simp only [opv] at h
    split at h
    · rename_i k k' hs hd; obtain ⟨k'', n, hx, h⟩ := isInt_ex h; exact out_v (run_v (by rw [hx]; exact convert_int hs hd)) h
    · obtain ⟨v, w', hr, h⟩ := h; exact out_v (run_v hr) h
  | sliceToArrayPointer arr x => rw [hop] at h; obtain ⟨v, w', hr, h⟩ := h; exact out_v (run_v hr) h
  | makeInterface t x =>
    rw [hop] at h
    obtain ⟨_, hb, h⟩ := rd_ex h
    have hb' := gd_some hb
    exact out_v (run_v (makeIface_run (by rintro e; rw [e] at hb'; cases hb') (by rintro e; rw [e] at hb'; cases hb'))) h
  | makeFunc fn first captured =>
    rw [hop] at h
    refine out_v (run_v (v := .func fn (first.toList.map (ev N e)).toArray (captured.toList.map (ev N e)).toArray) (w' := w) ?_) h
    have q : ∀ l : Array Operand, (l.toList.map (ev N e)).toArray = l.map (ev N e) := fun l => by apply Array.ext'; simp
    simp [Instr.makeFunc, q]
  | makeMap t r =>
    rw [hop] at h
    simp only [opv] at h
    split at h
    · exact out_v (run_v (by simp [Instr.makeMap])) (h _ _ rfl rfl)
    · obtain ⟨v, w', hr, h⟩ := h; exact out_v (run_v hr) h
  | makeChan t s => rw [hop] at h; obtain ⟨v, w', hr, h⟩ := h; exact out_v (run_v hr) h
  | makeSlice t l c => rw [hop] at h; obtain ⟨v, w', hr, h⟩ := h; exact out_v (run_v hr) h
  | slice t x lo hi mx => rw [hop] at h; obtain ⟨v, w', hr, h⟩ := h; exact out_v (run_v hr) h
  | fieldAddr s x f =>
    rw [hop] at h
    simp only [opv] at h
    split at h
    · rename_i fs hk
      obtain ⟨a, ha, h⟩ := isPtr_ex h
      obtain ⟨fd, hf, h⟩ := rd_ex h
      obtain ⟨_, hb, h⟩ := rd_ex h
      have hb' := gd_some hb
      simp only [Bool.and_eq_true, Nat.blt_eq] at hb'
      exact out_v (run_v (by rw [ha]; exact fieldAt_run hk hf (VC.K.good_ne hb'.1) (by omega))) h
    · exact h.elim
  | field t x f =>
    rw [hop] at h
    simp only [opv] at h
    split at h
    · rename_i fs hk
      obtain ⟨cs, ha, h⟩ := isCs_ex h
      obtain ⟨fd, hf, h⟩ := rd_ex h
      obtain ⟨v, hv, h⟩ := field_run (w := w) hk hf h
      exact out_v (run_v (by rw [ha]; exact hv)) h
    · exact h.elim
  | indexAddr t x ix =>
    rw [hop] at h
    simp only [opv] at h
    split at h
    · rename_i el hk
      obtain ⟨k, i, hi, h⟩ := isInt_ex h
      obtain ⟨a, n, c, hx, h⟩ := isSl_ex h
      obtain ⟨ad, ha, h'⟩ := rd_ex h
      obtain ⟨_, hb, ⟨h0, hn⟩, h2⟩ := rd_ex h'
      subst ha
      exact out_v (run_v (by rw [hi, hx]; exact indexAt_slice hk (VC.K.good_ne (gd_some hb)) h0 hn)) h2
    · rename_i n el hk
      obtain ⟨k, i, hi, h⟩ := isInt_ex h
      obtain ⟨ad, hx, h⟩ := isPtr_ex h
      obtain ⟨_, hb, ⟨h0, hn⟩, h⟩ := rd_ex h
      exact out_v (run_v (by rw [hi, hx]; exact indexAt_array hk (VC.K.good_ne (gd_some hb)) h0 hn)) h
    · exact h.elim
  | index t x ix =>
    rw [hop] at h
    simp only [opv] at h
    split at h
    · rename_i n el hk
      obtain ⟨k, i, hi, h⟩ := isInt_ex h
      obtain ⟨cs, hx, h⟩ := isCs_ex h
      obtain ⟨_, hb, ⟨h0, hn⟩, h⟩ := rd_ex h
      obtain ⟨v, hv, h⟩ := index_array (w := w) hk (VC.K.good_ne (gd_some hb)) h0 hn h
      exact out_v (run_v (by rw [hi, hx]; exact hv)) h
    · obtain ⟨v, w', hr, h⟩ := h; exact out_v (run_v hr) h
  | lookup t x ix ok => rw [hop] at h; obtain ⟨v, w', hr, h⟩ := h; exact out_v (run_v hr) h
  | mapUpdate t m k x => rw [hop] at h; obtain ⟨w', hr, h⟩ := h; exact out_u (run_u hr) h
  | mapEntry t m k => rw [hop] at h; obtain ⟨v, w', hr, h⟩ := h; exact out_v (run_v hr) h
  | entryStore t m s x => rw [hop] at h; obtain ⟨w', hr, h⟩ := h; exact out_u (run_u hr) h
  | range t x => rw [hop] at h; obtain ⟨v, w', hr, h⟩ := h; exact out_v (run_v hr) h
  | next it s => rw [hop] at h; obtain ⟨v, w', hr, h⟩ := h; exact out_v (run_v hr) h
  | entry it => rw [hop] at h; obtain ⟨v, w', hr, h⟩ := h; exact out_v (run_v hr) h
  | typeAssert x t a ok => rw [hop] at h; obtain ⟨v, w', hr, h⟩ := h; exact out_v (run_v hr) h
  | extract t ix =>
    rw [hop] at h
    simp only [opv] at h
    obtain ⟨vs, hv, h⟩ := isTup_ex h
    obtain ⟨v, hx, h⟩ := rd_ex h
    refine out_v (run_v (v := v) (w' := w) ?_) h
    simp [Instr.extract, hv, hx]
  | call c =>
    rw [hop] at h
    simp only [opv] at h
    have hargs : c.args.map (ev N e) = (c.args.toList.map (ev N e)).toArray := by apply Array.ext'; simp
    split at h
    · rename_i f hc
      obtain ⟨fn, first, captured, hf, h⟩ := isFn_ex h
      unfold callN at h
      split at h
      · rename_i g
        obtain ⟨h1, h2⟩ := callV_run h
        refine out_c (by cases c; simp only at hc; subst hc; rfl) ?_ h2
        simp only [resolve, hc, hf, Deferred.ofValue, Sem.run_bind, Sem.run_pure, Result.andThen_ok, invoke]
        rw [← h1]
        congr 2
        apply Array.ext'
        simp
      · rename_i name
        split at h
        · rename_i recv rest hrec
          obtain ⟨t, v, rfl, h⟩ := isIf_ex h
          obtain ⟨f', x, hm, h⟩ := h
          obtain ⟨h1, h2⟩ := callV_run h
          refine out_c (by cases c; simp only at hc; subst hc; rfl) ?_ h2
          simp only [resolve, hc, hf, Deferred.ofValue, Sem.run_bind, Sem.run_pure, Result.andThen_ok, invoke]
          have harr : (first ++ c.args.map (ev N e)) = (Value.iface t v :: rest).toArray := by apply Array.ext'; simpa using hrec
          rw [harr]
          have e0 : (Value.iface t v :: rest).toArray[0]? = some (.iface t v) := rfl
          rw [e0]
          simp only [callMethod, Sem.run_bind, run_program, Result.andThen_ok, hm]
          rw [← h1]
          congr 1
          congr 1
          apply Array.ext'
          simp [List.take_of_length_le]
        · exact h.elim
      · exact h.elim
    · rename_i r name hc
      obtain ⟨t, v, hr, h⟩ := isIf_ex h
      obtain ⟨f, x, hm, h⟩ := h
      obtain ⟨h1, h2⟩ := callV_run h
      refine out_c (by cases c; simp only at hc; subst hc; rfl) ?_ h2
      simp only [resolve, hc, hr, Sem.run_bind, Sem.run_pure, Result.andThen_ok, invoke]
      have e0 : (#[Value.iface t v] ++ c.args.map (ev N e))[0]? = some (.iface t v) := by rw [hargs, List.append_toArray]; rfl
      rw [e0]
      simp only [callMethod, Sem.run_bind, run_program, Result.andThen_ok, hm]
      rw [← h1]
      congr 1
      congr 1
      apply Array.ext'
      simp [List.take_of_length_le]
    · rename_i b hc
      split at h
      · rename_i x hb
        obtain ⟨a, n, cp, rfl, h⟩ := isSl_ex h
        obtain ⟨hb1, t, ht, hx, hk⟩ := bShort_lenS hb
        refine out_v (v := .int .i64 n) (w' := w) ?_ h
        obtain ⟨el, hk⟩ := hk
        obtain ⟨i, d, hi, hd, hr⟩ := row_spec (P := P) (t := t) (by rw [hk]; simp)
        rw [hr] at hk
        cases d <;> simp [kOf] at hk
        have h1 : c.argTypes[0]? = some t := by rw [← Array.getElem?_toList, ht]; rfl
        have h2 : (c.args.map (ev N e))[0]? = some (.slice a n cp) := by rw [hargs, List.getElem?_toArray, hx]; rfl
        simp [resolve, hc, invoke, builtin, hb1, Builtin.len_, h1, h2, run_underlying hd, goInt]
      · rename_i x hb
        obtain ⟨s, rfl, h⟩ := isStr_ex h
        obtain ⟨hb1, t, ht, hx, hk⟩ := bShort_lenT hb
        refine out_v (v := .int .i64 s.size) (w' := w) ?_ h
        obtain ⟨i, d, hi, hd, hr⟩ := row_spec (P := P) (t := t) (by rw [hk]; simp)
        rw [hr] at hk
        cases d <;> simp [kOf] at hk
        have h1 : c.argTypes[0]? = some t := by rw [← Array.getElem?_toList, ht]; rfl
        have h2 : (c.args.map (ev N e))[0]? = some (.string s) := by rw [hargs, List.getElem?_toArray, hx]; rfl
        simp [resolve, hc, invoke, builtin, hb1, Builtin.len_, h1, h2, run_underlying hd, goInt]
      · rename_i x y hb
        obtain ⟨k, a, hx, h1⟩ := isInt_ex h
        obtain ⟨k', a', hy, h2⟩ := isInt_ex h1
        subst hx hy
        clear h h1
        have h := h2
        clear h2
        obtain ⟨hb1, hvs⟩ := bShort_mx hb
        refine out_v (v := .int k (max a a')) (w' := w) ?_ h
        have h3 : (if a' > a then a' else a) = max a a' := by split <;> omega
        simp [resolve, hc, invoke, builtin, hb1, Builtin.max_, hvs, Builtin.max2, h3]
      · rename_i x y hb
        obtain ⟨k, a, hx, h1⟩ := isInt_ex h
        obtain ⟨k', a', hy, h2⟩ := isInt_ex h1
        subst hx hy
        clear h h1
        have h := h2
        clear h2
        obtain ⟨hb1, hvs⟩ := bShort_mn hb
        refine out_v (v := .int k (min a a')) (w' := w) ?_ h
        have h3 : (if a' < a then a' else a) = min a a' := by split <;> omega
        simp [resolve, hc, invoke, builtin, hb1, Builtin.min_, hvs, Builtin.min2, h3]
      · obtain ⟨v, w', hr, h⟩ := h
        refine out_v (v := v) (w' := w') ?_ h
        simp only [resolve, hc, Sem.run_bind, Sem.run_pure, Result.andThen_ok, invoke, builtin]
        split at hr
        all_goals first | (simp only [Sem.run_bind, hr, Result.andThen_ok, Sem.run_pure]; done) | skip
        rw [run_stuck] at hr
        cases hr
  | go c => rw [hop] at h; exact h.elim
  | defer c => rw [hop] at h; exact h.elim
  | panic x => rw [hop] at h; exact h.elim
  | send c x => rw [hop] at h; exact h.elim
  | recv t c ok => rw [hop] at h; exact h.elim
  | select cs b => rw [hop] at h; exact h.elim

theorem opv_sound {o : Oper} {e : Env} {K : Value → World → Prop} {next : Act → World → Prop} {Q : Exit → Act → World → Prop}
    (hd : o.dst ≠ some dSlot) (hK : ∀ v w', K v w' → next (act N (put e o.dst v)) w') (h : opv P N o.type e w K o.op) : o.wp P (act N e) w next Q := by
  unfold Oper.wp
  rw [act_eval]
  rcases opv_out h with ⟨v, w', hr, h⟩ | ⟨_, ⟨w', hr, h⟩ | ⟨f, args, hr, h⟩⟩
  · rw [hr, Oper.upon_value, act_put _ _ _ _ hd]; exact hK _ _ h
  · rw [hr, Oper.upon_skip, act_put _ _ _ _ hd]; exact hK _ _ h
  · rw [hr, Oper.upon_enter]
    refine h.mono ?_
    rintro e' w' ⟨v, rfl, hk⟩
    simp only
    rw [act_put _ _ _ _ hd]
    exact hK _ _ hk
theorem opv_value {o : Oper} {e : Env} {K : Value → World → Prop} (hq : quietOp o.op = true) (h : opv P N o.type e w K o.op) : ∃ v w', (execOp (ev N e) o).run P w = .ok (.value v) w' ∧ K v w' := by
  rcases opv_out h with h | ⟨hn, _⟩
  · exact h
  · rw [hq] at hn; cases hn
/-! ### Inside a fence that lets all by; in a round or in none -/
def fen (r : Option Nat) : Fence := { Fence.wide with round := r }
theorem fen_none : fen none = Fence.wide := rfl
theorem calls_fen {r : Option Nat} {n : Nat} {f : FuncId} {args : Array Value} {w : World} {R : Ending → World → Prop} (h : Calls P f args w R) : CallsIn (fen r) n P f args w R := callsIn_wide.2 h
theorem round_any {r : Option Nat} {m n l : Nat} {f : FuncId} {tmps : Array Value} {assign body : Code} {w : World} {R : Ending → World → Prop} (h : RoundIn Fence.wide m P l f tmps assign body w R) : RoundIn (fen r) n P l f tmps assign body w R :=
  ⟨trivial, fun c cs _ => h.2 c cs (room_wide _)⟩
theorem rows_fen {r : Option Nat} {n : Nat} {row : String} {args : Array Value} {w : World} {R : Value → World → Prop} (h : Rows P row args w R) : RowsIn (fen r) n P row args w R := fun c cs _ => by
  obtain ⟨v, w', h1, h2⟩ := h c cs
  exact ⟨v, w', h1, stepsIn_wide.2 h2⟩
theorem oper_in {r : Option Nat} {n : Nat} {o : Oper} {a : Act} {w : World} {next : Act → World → Prop} {Q : Exit → Act → World → Prop} (hd : ∀ c, o.op ≠ .defer c) (h : o.wp P a w next Q) : o.wpIn (fen r) n P a w next Q := by
  refine ⟨fun _ _ => trivial, ?_⟩
  rw [Oper.semAt_eq _ _ _ hd]
  unfold Oper.wp at h
  have hdep : (fen r).depth.isSome = true → 1 ≤ n := fun h => by cases h
  generalize (execOp a.eval o).run P w = res at h ⊢
  cases res with
  | ok x w' =>
    cases x <;> simp only [Oper.upon, Oper.uponIn] at h ⊢
    case enter f args => exact ⟨hdep, calls_fen h⟩
    case row row args => exact ⟨hdep, rows_fen h⟩
    all_goals exact h
  | halt x w' => cases x <;> simp only [Oper.upon, Oper.uponIn] at h ⊢; exact h
def isDefer : Op → Bool
  | .defer _ => true
  | _ => false
theorem isDefer_of {o : Op} (h : isDefer o = false) : ∀ c, o ≠ .defer c := by rintro c rfl; cases h
/-- As opv; a function that is called may be a yield. -/
def opvY (P : Program) (N : Nat) (ty : TypeId) (e : Env) (w : World) (K : Value → World → Prop) (op : Op) : Prop :=
  match op with
  | .call { callee := .value f, args := args, .. } => isFn (ev N e f) fun fn first captured => callF P fn (first ++ args.toList.map (ev N e)) captured w K
  | .defer _ => False
  | op => opv P N ty e w K op
theorem opvY_sound {r : Option Nat} {n : Nat} {o : Oper} {e : Env} {K : Value → World → Prop} {next : Act → World → Prop} {Q : Exit → Act → World → Prop}
    (hd : o.dst ≠ some dSlot) (hK : ∀ v w', K v w' → next (act N (put e o.dst v)) w') (h : opvY P N o.type e w K o.op) : o.wpIn (fen r) n P (act N e) w next Q := by
  unfold opvY at h
  split at h
  · rename_i f args ts hop
    obtain ⟨fn, first, captured, hf, h⟩ := isFn_ex h
    unfold callF at h
    split at h
    · rename_i l
      split at h
      case h_2 => exact h.elim
      rename_i hcap
      obtain rfl : captured = #[] := by apply Array.ext'; simpa using hcap
      obtain ⟨fn, tmps, assign, body, hy, hR⟩ := h
      refine ⟨fun _ _ => trivial, ?_⟩
      rw [Oper.semAt_eq _ _ _ (by rw [hop]; intro c hc; cases hc), act_eval]
      have hrun : (execOp (ev N e) o).run P w = .ok (.round l fn tmps assign body) w := by
        unfold execOp
        rw [hop]
        simp only [resolve, hf, Deferred.ofValue, Sem.run_bind, Sem.run_pure, Result.andThen_ok, invoke]
        rw [← hy]
        congr 2
        apply Array.ext'
        simp
      rw [hrun]
      refine ⟨fun h => (by cases h), (round_any hR).mono ?_⟩
      rintro e' w' ⟨v, rfl, hk⟩
      simp only
      rw [act_put _ _ _ _ hd]
      exact hK _ _ hk
    · have h' : opv P N o.type e w K o.op := by
        rw [hop]
        simp only [opv, hf, isFn]
        exact h
      exact oper_in (by rw [hop]; intro c hc; cases hc) (opv_sound hd hK h')
  · exact h.elim
  · rename_i h1 h2
    exact oper_in (fun c hc => h2 c hc) (opv_sound hd hK h)
end
end Go.Proofs.Ytlhgibiffekpfaa.VC
