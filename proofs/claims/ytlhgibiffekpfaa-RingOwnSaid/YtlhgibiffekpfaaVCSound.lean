/- The calculus of conditions is sound.  Conditions: none (a general text, over any program). -/
import Derived.Test.YtlhgibiffekpfaaVC
namespace Go.Proofs.Ytlhgibiffekpfaa.VC
set_option linter.unusedSimpArgs false
set_option linter.unusedVariables false
open Go Go.RowKit

section
variable {P : Program} {w : World}

theorem row_spec {t : TypeId} (h : (row P t).k ≠ .bad) : ∃ i d, P.info? t = some i ∧ P.underlying t = some d ∧ row P t = ⟨kOf d, i.size, i.bytes, i.zero⟩ := by
  unfold row at h ⊢
  split
  · rename_i i d hi hd; exact ⟨i, d, hi, hd, rfl⟩
  · rename_i hn
    split at h
    · rename_i i d hi hd; exact (hn _ _ hi hd).elim
    · exact (h rfl).elim
theorem row_zero {t : TypeId} {z : Value} (h : (row P t).zero = some z) : ∃ i d, P.info? t = some i ∧ P.underlying t = some d ∧ i.zero = some z ∧ row P t = ⟨kOf d, i.size, i.bytes, i.zero⟩ := by
  unfold row at h ⊢
  split
  · rename_i i d hi hd
    simp only [hi, hd] at h
    exact ⟨i, d, hi, hd, h, rfl⟩
  · rename_i hn
    split at h
    · rename_i i d hi hd; exact (hn _ _ hi hd).elim
    · cases h
theorem run_info {t : TypeId} {i : TypeInfo} (h : P.info? t = some i) (w : World) : (typeInfo t).run P w = .ok i w := by simp [typeInfo, h]
theorem run_zero {t : TypeId} {z : Value} {i : TypeInfo} (h : P.info? t = some i) (hz : i.zero = some z) (w : World) : (zeroValue t).run P w = .ok z w := by simp [zeroValue, run_info h, hz]
theorem run_size {t : TypeId} {i : TypeInfo} (h : P.info? t = some i) (w : World) : (sizeOf t).run P w = .ok i.size w := by simp [sizeOf, run_info h]
theorem agg_kOf (d : TypeDesc) (a b : Nat) (z : Option Value) : (TI.mk (kOf d) a b z).agg = match d with | .struct _ | .array _ _ => true | _ => false := by
  cases d <;> rfl
theorem run_agg {t : TypeId} (h : (row P t).k ≠ .bad) (w : World) : (isAgg t).run P w = .ok (row P t).agg w := by
  obtain ⟨i, d, hi, hd, hr⟩ := row_spec h
  rw [hr, agg_kOf]
  unfold isAgg
  simp only [Sem.run_bind, run_underlying hd, Result.andThen_ok]
  cases d <;> rfl
theorem agg_ne_bad {t : TypeId} (h : (row P t).agg = true) : (row P t).k ≠ .bad := by
  intro e; simp [TI.agg, e] at h

theorem cellsAt_length {a : Addr} : ∀ {n : Nat} {cs : List Value}, cellsAt w a n = some cs → cs.length = n ∧ ∀ j v, cs[j]? = some v → w.cell? (a.add j) = some v := by
  intro n
  induction n with
  | zero => intro cs h; simp [cellsAt] at h; subst h; simp
  | succ n ih =>
    intro cs h
    simp only [cellsAt, Option.bind_eq_some_iff, Option.map_eq_some_iff] at h
    obtain ⟨l, hl, v, hv, rfl⟩ := h
    obtain ⟨h1, h2⟩ := ih hl
    refine ⟨by simp [h1], fun j u hu => ?_⟩
    rcases Nat.lt_trichotomy j n with hj | hj | hj
    · rw [List.getElem?_append_left (by omega)] at hu; exact h2 j u hu
    · subst hj; rw [List.getElem?_append_right (by omega)] at hu; simp [h1] at hu; subst hu; exact hv
    · rw [List.getElem?_append_right (by omega)] at hu
      rw [List.getElem?_eq_none (by simp; omega)] at hu; cases hu

theorem loadC_run {t : TypeId} {a : Addr} {K : Value → Prop} (h : loadC P w t a K) : ∃ v, (Instr.loadAt t (.pointer (some a))).run P w = .ok v w ∧ K v := by
  unfold loadC at h
  unfold Instr.loadAt Instr.sureAddr
  simp only [Sem.run_bind, Sem.run_pure, Result.andThen_ok, loadVar]
  split at h
  · rename_i hagg
    obtain ⟨cs, hcs, hK⟩ := rd_ex h
    have hb := agg_ne_bad hagg
    obtain ⟨i, d, hi, hd, hr⟩ := row_spec hb
    obtain ⟨hlen, hcell⟩ := cellsAt_length hcs
    have hsz : (row P t).size = i.size := by rw [hr]
    have hl := run_loadCells_list (P := P) (w := w) a cs hcell
    rw [hlen, hsz] at hl
    refine ⟨.agg cs.toArray, ?_, hK⟩
    rw [run_agg hb, hagg]
    simp [run_size hi, hl]
  · rename_i hagg
    obtain ⟨_, hb, h⟩ := rd_ex h
    obtain ⟨v, hv, hK⟩ := rd_ex h
    refine ⟨v, ?_, hK⟩
    rw [run_agg (VC.K.good_ne (gd_some hb))]
    simp [hagg, hv]

theorem canWrite_run {a : Addr} : ∀ (vs : List Value) (i : Nat) (w : World), canWrite w a i vs → (storeCells a vs i).run P w = .ok () (written w a i vs) := by
  intro vs
  induction vs with
  | nil => intro i w _; simp [storeCells, written]
  | cons v vs ih =>
    intro i w h
    obtain ⟨⟨x, hx⟩, hf, ho, hr⟩ := h
    simp only [storeCells, Sem.run_bind, written]
    rw [run_store _ _ _ _ _ ho, hx]
    simp only [hf, Bool.false_eq_true, if_false, Result.andThen_ok]
    exact ih _ _ hr

theorem store_run {t : TypeId} {a : Addr} {v : Value} (hb : (row P t).k ≠ .bad) (hs : v.cells.size = (row P t).size) (h : canWrite w a 0 v.cells.toList) :
    (Instr.storeAt t (.pointer (some a)) v).run P w = .ok () (written w a 0 v.cells.toList) := by
  obtain ⟨i, d, hi, hd, hr⟩ := row_spec hb
  unfold Instr.storeAt Instr.sureAddr storeVar
  have hsz : v.cells.size = i.size := by rw [hs, hr]
  simp only [Sem.run_bind, Sem.run_pure, Result.andThen_ok, run_size hi, hsz, ne_eq, not_true_eq_false, if_false]
  exact canWrite_run _ _ _ h

theorem partC_run {t : TypeId} {cs : List Value} {off : Nat} {K : Value → Prop} (h : partC P t cs off K) : ∃ v, (part t cs.toArray off).run P w = .ok v w ∧ K v := by
  unfold partC at h
  unfold part
  simp only [Sem.run_bind]
  split at h
  · rename_i hagg
    have hb := agg_ne_bad hagg
    obtain ⟨i, d, hi, hd, hr⟩ := row_spec hb
    have hsz : (row P t).size = i.size := by rw [hr]
    refine ⟨_, ?_, h⟩
    rw [run_agg hb, hagg]
    simp [run_size hi, hsz]
  · rename_i hagg
    obtain ⟨_, hb, h⟩ := rd_ex h
    obtain ⟨v, hv, hK⟩ := rd_ex h
    refine ⟨v, ?_, hK⟩
    rw [run_agg (VC.K.good_ne (gd_some hb))]
    simp [hagg, hv]

theorem byteArray_eq_iff (a b : ByteArray) : a.toList = b.toList ↔ a = b := by
  rw [ByteArray.toList_eq, ByteArray.toList_eq]
  constructor
  · intro h; cases a; cases b; simp at h; subst h; rfl
  · intro h; rw [h]

theorem beq_dec {α : Type} [BEq α] [LawfulBEq α] [DecidableEq α] (a b : α) : (a == b) = decide (a = b) := by
  rw [Bool.eq_iff_iff]; simp

theorem binV_run {op : BinOp} {t : TypeId} {x y v : Value} (h : binV op x y = some v) : (binOp op t x y).run P w = .ok v w := by
  unfold binV at h
  split at h
  · rename_i k a k' b
    cases op <;> simp only at h
    case shl => obtain ⟨hb, rfl⟩ := shN_some h; simp [binOp, Op.shift, hb]
    case shr => obtain ⟨hb, rfl⟩ := shN_some h; simp [binOp, Op.shift, hb]
    case quo | rem => obtain ⟨hk, h2⟩ := onK_some h; subst hk; obtain ⟨hb, rfl⟩ := dvN_some h2; simp [binOp, Op.intDiv, hb]
    case eql | neq | lss | leq | gtr | geq => obtain ⟨hk, h2⟩ := onK_some h; subst hk; simp only [cmpI, Option.map_some, Option.some.injEq] at h2; subst h2; simp [binOp, Op.intCmp, bne, beq_dec]
    all_goals (obtain ⟨hk, h2⟩ := onK_some h; subst hk; cases h2; simp [binOp, Op.intArith, Op.intBits, andI, orI, xorI, anI])
  · rename_i a b
    cases op <;> simp only at h
    case add =>
      obtain ⟨hs, rfl⟩ := catS_some h
      have : ¬ ((a.size + b.size : Nat) : Int) > IntKind.i64.max := by
        have : IntKind.i64.max = 9223372036854775807 := rfl
        omega
      simp only [binOp, Op.stringOp, if_neg this]
      rfl
    all_goals cases h
    · simp [binOp, Op.stringOp, ← byteArray_eq_iff, beq_dec]
    · simp [binOp, Op.stringOp, ← byteArray_eq_iff, beq_dec]
  · cases h

theorem unV_run {op : UnOp} {x v : Value} (h : unV op x = some v) : (Op.unary op x).run P w = .ok v w := by
  unfold unV at h
  split at h <;> first | cases h | skip
  all_goals rfl

theorem nilV_equal (n : Nat) {t : TypeId} {x y : Value} {b : Bool} (h : nilV (row P t).k x y = some b) : (Op.equalIn (n + 1) t x y).run P w = .ok b w := by
  have hb : (row P t).k ≠ .bad := by intro e; rw [e] at h; simp [nilV] at h
  obtain ⟨i, d, hi, hd, hr⟩ := row_spec hb
  rw [hr] at h
  simp only at h
  unfold nilV at h
  split at h
  · rename_i e a hk; cases d <;> simp [kOf] at hk; cases h; cases a <;> simp [Op.equalIn, run_underlying hd]
  · rename_i e a n c n' c' hk; cases d <;> simp [kOf] at hk; cases h; cases a <;> simp [Op.equalIn, run_underlying hd]
  · rename_i k e a hk; cases d <;> simp [kOf] at hk; cases h; cases a <;> simp [Op.equalIn, run_underlying hd]
  · rename_i hk; cases d <;> simp [kOf] at hk; cases h; simp [Op.equalIn, run_underlying hd]
  · rename_i f a c hk; cases d <;> simp [kOf] at hk; cases h; simp [Op.equalIn, run_underlying hd]
  · rename_i a b hk; cases d <;> simp [kOf] at hk; cases h; simp [Op.equalIn, run_underlying hd, beq_dec]
  · cases h
theorem nilV_guard {t : TypeId} {k : K} {x y : Value} {b : Bool} (h : nilV k x y = some b) (op : BinOp) (xo yo : Operand) : (eqGuard op t xo yo x y).run P w = .ok () w := by
  unfold nilV at h
  split at h
  all_goals first | (cases h; done) | skip
  all_goals (unfold eqGuard; split <;> simp)
theorem eqL_run (n : Nat) {xs ys : Array Value} : ∀ (fs : List Field) {b : Bool}, (fs.all fun f => f.name != "_" && (match P.info? f.type, P.underlying f.type with | some _, some (.int _) => true | _, _ => false)) = true →
    eqL (fs.map (·.offset)) xs.toList ys.toList = some b →
    (Sem.run P (forIn fs ((none, ()) : Option Bool × Unit) fun f _ =>
      if f.name = "_" then pure (ForInStep.yield (none, ()))
      else do
        let x ← part f.type xs f.offset
        let y ← part f.type ys f.offset
        let r ← Op.equalIn (n + 1) f.type x y
        if r = false then pure (ForInStep.done (some false, ())) else pure (ForInStep.yield (none, ()))) w) = .ok ((if b then none else some false), ()) w := by
  intro fs
  induction fs with
  | nil => intro b _ h; simp only [List.map_nil, eqL, Option.some.injEq] at h; subst h; simp
  | cons f fs ih =>
    intro b hf h
    simp only [List.all_cons, Bool.and_eq_true, bne_iff_ne, ne_eq] at hf
    obtain ⟨⟨hn, hi⟩, hr⟩ := hf
    split at hi
    · rename_i inf kk hinf hu
      simp only [List.map_cons, eqL] at h
      split at h
      · rename_i k a k' b' hx hy
        split at h
        · rename_i hk
          obtain rfl := ikEq_eq hk
          simp only [Option.map_eq_some_iff] at h
          obtain ⟨r, hr', rfl⟩ := h
          have hrow : (row P f.type).agg = false ∧ (row P f.type).k ≠ .bad := by
            unfold row
            rw [hinf, hu]
            exact ⟨rfl, by simp [kOf]⟩
          have hx' : xs[f.offset]? = some (.int k a) := by rw [← hx]; exact (Array.getElem?_toList ..).symm
          have hy' : ys[f.offset]? = some (.int k b') := by rw [← hy]; exact (Array.getElem?_toList ..).symm
          have hpx : (part f.type xs f.offset).run P w = .ok (.int k a) w := by
            simp [part, run_agg hrow.2, hrow.1, hx']
          have hpy : (part f.type ys f.offset).run P w = .ok (.int k b') w := by
            simp [part, run_agg hrow.2, hrow.1, hy']
          have he : (Op.equalIn (n + 1) f.type (.int k a) (.int k b')).run P w = .ok (decide (a = b')) w := by
            simp [Op.equalIn, run_underlying hu, beq_dec]
          rw [List.forIn_cons]
          simp only [hn, if_false, Sem.run_bind, hpx, hpy, he, Result.andThen_ok]
          by_cases hab : a = b'
          · simp only [hab, decide_true, Bool.true_and, Bool.true_eq_false, if_false, Sem.run_pure, Result.andThen_ok]
            exact ih hr hr'
          · simp only [hab, decide_false, Bool.false_and, if_true, Sem.run_pure, Result.andThen_ok]
            rfl
        · cases h
      · cases h
    · cases hi
theorem aggV_equal (n : Nat) {t : TypeId} {x y : Value} {b : Bool} (h : aggV P t x y = some b) : (Op.equalIn (n + 2) t x y).run P w = .ok b w := by
  unfold aggV at h
  split at h
  · rename_i xs ys
    split at h
    · rename_i fs hp hk
      unfold plainS at hp
      split at hp
      · rename_i d hu
        simp only [Bool.and_eq_true, Bool.not_eq_true'] at hp
        obtain ⟨⟨ha, hs⟩, hg⟩ := hp
        have hne : (row P t).k ≠ .bad := by rw [hk]; simp
        obtain ⟨i, d', hi, hd, hr⟩ := row_spec hne
        rw [hu] at hd; cases hd
        rw [hr] at hk
        simp only [kOf, K.struct.injEq] at hk
        rw [← hk, List.map_map] at h
        have := eqL_run (P := P) (w := w) n d.toList ha (b := b) (by rw [← h]; rfl)
        rw [Array.forIn_toList] at this
        rw [Op.equalIn]
        simp only [Sem.run_bind, run_underlying hu, Result.andThen_ok]
        simp [hs]
        rw [this]
        cases b <;> simp
      · cases hp
    · cases h
  · cases h
theorem eqO_equal {t : TypeId} {x y : Value} {b : Bool} (h : eqO P t x y = some b) : (Op.equal t x y).run P w = .ok b w := by
  unfold eqO at h
  cases hn : nilV (row P t).k x y with
  | none => rw [hn] at h; exact aggV_equal 9998 h
  | some b' => rw [hn] at h; cases h; exact nilV_equal 9999 hn
theorem eqO_guard {t : TypeId} {x y : Value} {b : Bool} (h : eqO P t x y = some b) (op : BinOp) (xo yo : Operand) : (eqGuard op t xo yo x y).run P w = .ok () w := by
  unfold eqO at h
  cases hn : nilV (row P t).k x y with
  | some b' => exact nilV_guard hn op xo yo
  | none =>
    rw [hn] at h
    change aggV P t x y = some b at h
    unfold aggV at h
    split at h
    · split at h
      · rename_i fs hp hk
        unfold plainS at hp
        split at hp
        · simp only [Bool.and_eq_true, Bool.not_eq_true'] at hp
          unfold eqGuard
          split <;> simp [hp.2]
        · cases hp
      · cases h
    · cases h
theorem eqO_bin {op : BinOp} {t : TypeId} {x y : Value} {b : Bool} (h : eqO P t x y = some b) : (binOp .eql t x y).run P w = .ok (.bool b) w ∧ (binOp .neq t x y).run P w = .ok (.bool !b) w := by
  have he := eqO_equal (w := w) h
  unfold eqO at h
  cases hn : nilV (row P t).k x y with
  | some b' =>
    unfold nilV at hn
    split at hn
    all_goals first | (cases hn; done) | skip
    all_goals exact ⟨by simp only [binOp, Sem.run_bind, he, Result.andThen_ok, Sem.run_pure], by simp only [binOp, Sem.run_bind, he, Result.andThen_ok, Sem.run_pure]⟩
  | none =>
    rw [hn] at h
    change aggV P t x y = some b at h
    unfold aggV at h
    split at h
    · exact ⟨by simp only [binOp, Sem.run_bind, he, Result.andThen_ok, Sem.run_pure], by simp only [binOp, Sem.run_bind, he, Result.andThen_ok, Sem.run_pure]⟩
    · cases h
theorem nilV_run {op : BinOp} {t : TypeId} {x y v : Value} (xo yo : Operand) (h : eqV P op t x y = some v) :
    (do eqGuard op t xo yo x y; binOp op t x y : Sem Value).run P w = .ok v w := by
  unfold eqV at h
  cases op <;> simp only [Option.map_eq_some_iff] at h
  all_goals first | (cases h; done) | skip
  all_goals
    obtain ⟨b, hb, rfl⟩ := h
    simp only [Sem.run_bind, eqO_guard (w := w) hb, Result.andThen_ok]
  · exact (eqO_bin (op := .eql) hb).1
  · exact (eqO_bin (op := .eql) hb).2
theorem eqGuard_binV {op : BinOp} {t : TypeId} {x y v : Value} (xo yo : Operand) (h : binV op x y = some v) : (eqGuard op t xo yo x y).run P w = .ok () w := by
  unfold binV at h
  split at h
  · unfold eqGuard; split <;> simp
  · unfold eqGuard; split <;> simp
  · cases h
theorem bin_run {op : BinOp} {t : TypeId} {x y v : Value} (xo yo : Operand) (h : orO (binV op x y) (eqV P op t x y) = some v) :
    (do eqGuard op t xo yo x y; binOp op t x y : Sem Value).run P w = .ok v w := by
  cases hb : binV op x y with
  | none => rw [hb] at h; exact nilV_run xo yo h
  | some u =>
    rw [hb] at h
    cases h
    simp only [Sem.run_bind, eqGuard_binV xo yo hb, Result.andThen_ok]
    exact binV_run hb
end
end Go.Proofs.Ytlhgibiffekpfaa.VC
