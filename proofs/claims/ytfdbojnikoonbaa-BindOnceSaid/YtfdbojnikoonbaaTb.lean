/- bind: what the table's methods do, as steps of a plain state.  Conditions: the table lies as it is said to lie. -/
import Derived.Test.YtfdbojnikoonbaaDrop
import Derived.Test.YtfdbojnikoonbaaC1
namespace Go.Proofs.Ytfdbojnikoonbaa
set_option linter.unusedSimpArgs false
set_option linter.unusedVariables false
open Go Go.RowKit VC
structure Cl where
  newest : Int
  ids : List (Int × Int)
structure St where
  cs : List (Int × Cl)
  used : List (Int × Bool)
def ptrV (o : Option Nat) : Value := .pointer (o.map fun b => ⟨b, 0, none⟩)
/-- A table of package bind lies at T, its maps at MC and MI, each client where loc says. -/
structure TabL (w : World) (T MC MI : Nat) (loc : Int → Nat × Nat) (s : St) : Prop where
  t : w.heap[T]? = some (.cells #[.map (some MC), .map (some MI)] 43 (0, 0))
  mc : MapAt ptrV .i64 w MC (s.cs.map fun p => (p.1, some (loc p.1).1))
  mi : MapAt Value.bool .i64 w MI s.used
  cl : ∀ p ∈ s.cs, w.heap[(loc p.1).1]? = some (clientRow p.2.newest (loc p.1).2) ∧ MapAt (Value.int .i64) .u16 w (loc p.1).2 p.2.ids
  far : ∀ p ∈ s.cs, (loc p.1).1 ≠ T ∧ (loc p.1).2 ≠ MC ∧ (loc p.1).2 ≠ MI ∧ ∀ q ∈ s.cs, p.1 ≠ q.1 → (loc p.1).1 ≠ (loc q.1).1 ∧ (loc p.1).2 ≠ (loc q.1).2
  ne : MC ≠ MI
/-- The table's blocks are in B. -/
def InB (B : Nat → Prop) (T MC MI : Nat) (loc : Int → Nat × Nat) (s : St) : Prop := B T ∧ B MC ∧ B MI ∧ ∀ p ∈ s.cs, B (loc p.1).1 ∧ B (loc p.1).2
def TabAt (w : World) (B : Nat → Prop) (T : Nat) (s : St) : Prop := ∃ MC MI loc, TabL w T MC MI loc s ∧ InB B T MC MI loc s
theorem InB.mono {B B' : Nat → Prop} {T MC MI : Nat} {loc : Int → Nat × Nat} {s : St} (h : InB B T MC MI loc s) (k : ∀ i, B i → B' i) : InB B' T MC MI loc s := ⟨k _ h.1, k _ h.2.1, k _ h.2.2.1, fun p hp => ⟨k _ (h.2.2.2 p hp).1, k _ (h.2.2.2 p hp).2⟩⟩
theorem TabL.keep {w w' : World} {S : Nat → Prop} {T MC MI : Nat} {loc : Int → Nat × Nat} {s : St} {B : Nat → Prop} (h : TabL w T MC MI loc s) (hB : InB B T MC MI loc s) (f : Fm S w w') (d : ∀ i, S i → ¬ B i) : TabL w' T MC MI loc s :=
  ⟨f.keep h.t fun x => d _ x hB.1, h.mc.keep f fun x => d _ x hB.2.1, h.mi.keep f fun x => d _ x hB.2.2.1, fun p hp => ⟨f.keep (h.cl p hp).1 fun x => d _ x (hB.2.2.2 p hp).1, (h.cl p hp).2.keep f fun x => d _ x (hB.2.2.2 p hp).2⟩, h.far, h.ne⟩
theorem TabAt.keep {w w' : World} {S B : Nat → Prop} {T : Nat} {s : St} (h : TabAt w B T s) (f : Fm S w w') (d : ∀ i, S i → ¬ B i) : TabAt w' B T s := by
  obtain ⟨MC, MI, loc, h1, h2⟩ := h
  exact ⟨MC, MI, loc, h1.keep h2 f d, h2⟩
theorem TabAt.mono {w : World} {B B' : Nat → Prop} {T : Nat} {s : St} (h : TabAt w B T s) (k : ∀ i, B i → B' i) : TabAt w B' T s := by
  obtain ⟨MC, MI, loc, h1, h2⟩ := h
  exact ⟨MC, MI, loc, h1, h2.mono k⟩
theorem TabL.lt {w : World} {T MC MI : Nat} {loc : Int → Nat × Nat} {s : St} (h : TabL w T MC MI loc s) : InB (fun i => i < w.heap.size) T MC MI loc s :=
  ⟨lt_of_blk h.t, lt_of_blk h.mc.choose_spec.choose_spec.1, lt_of_blk h.mi.choose_spec.choose_spec.1, fun p hp => ⟨lt_of_blk (h.cl p hp).1, lt_of_blk (h.cl p hp).2.choose_spec.choose_spec.1⟩⟩
theorem InB.and {B B' : Nat → Prop} {T MC MI : Nat} {loc : Int → Nat × Nat} {s : St} (h : InB B T MC MI loc s) (h' : InB B' T MC MI loc s) : InB (fun i => B i ∧ B' i) T MC MI loc s := ⟨⟨h.1, h'.1⟩, ⟨h.2.1, h'.2.1⟩, ⟨h.2.2.1, h'.2.2.1⟩, fun p hp => ⟨⟨(h.2.2.2 p hp).1, (h'.2.2.2 p hp).1⟩, ⟨(h.2.2.2 p hp).2, (h'.2.2.2 p hp).2⟩⟩⟩
theorem getM_map {α β : Type} {f : Int × α → β} {k : Int} : ∀ {l : List (Int × α)}, getM k (l.map fun p => (p.1, f p)) = (getM k l).map fun v => f (k, v) := by
  intro l
  induction l with
  | nil => rfl
  | cons p l ih =>
    simp only [List.map_cons, getM]
    split
    · rename_i h; subst h; rfl
    · exact ih
theorem getM_some {α : Type} {k : Int} {v : α} : ∀ {l : List (Int × α)}, getM k l = some v → (k, v) ∈ l := by
  intro l
  induction l with
  | nil => intro h; cases h
  | cons p l ih =>
    intro h
    simp only [getM] at h
    split at h
    · rename_i hk; subst hk; cases h; exact List.mem_cons_self
    · exact List.mem_cons_of_mem _ (ih h)
theorem setM_keys {α : Type} {k : Int} {v v' : α} : ∀ {l : List (Int × α)}, getM k l = some v → (setM k v' l).map (·.1) = l.map (·.1) := by
  intro l
  induction l with
  | nil => intro h; cases h
  | cons p l ih =>
    intro h
    simp only [getM] at h
    simp only [setM]
    split at h
    · rename_i hk; rw [if_pos hk]; simp [hk]
    · rename_i hk; rw [if_neg hk]; simp [ih h]
theorem setM_same {α : Type} {k : Int} {v : α} : ∀ {l : List (Int × α)}, getM k l = some v → setM k v l = l := by
  intro l
  induction l with
  | nil => intro h; cases h
  | cons p l ih =>
    intro h
    simp only [getM] at h
    simp only [setM]
    split at h
    · rename_i hk; rw [if_pos hk]; cases h; subst hk; rfl
    · rename_i hk; rw [if_neg hk, ih h]
theorem setM_setM {α : Type} {k : Int} {v v' : α} : ∀ {l : List (Int × α)}, setM k v' (setM k v l) = setM k v' l := by
  intro l
  induction l with
  | nil => simp [setM]
  | cons p l ih =>
    simp only [setM]
    split
    · simp [setM]
    · rename_i hk; simp only [setM, if_neg hk, ih]
theorem getM_setM {α : Type} {k j : Int} {v : α} : ∀ {l : List (Int × α)}, getM j (setM k v l) = if j = k then some v else getM j l := by
  intro l
  induction l with
  | nil => simp [setM, getM]
  | cons p l ih =>
    simp only [setM]
    split
    · rename_i hk
      simp only [getM]
      split
      · rfl
      · rename_i hj; rw [if_neg (by rw [← hk]; exact hj)]
    · rename_i hk
      simp only [getM, ih]
      split
      · rename_i hj; rw [if_neg]; intro e; exact hk (by rw [← e, ← hj])
      · rfl
theorem mem_setM {α : Type} {k : Int} {v : α} : ∀ {l : List (Int × α)} {p : Int × α}, p ∈ setM k v l → p = (k, v) ∨ (p ∈ l ∧ (p.1 = k → ¬ (l.map (·.1)).Nodup)) := by
  intro l
  induction l with
  | nil => intro p h; simp [setM] at h; exact .inl h
  | cons q l ih =>
    intro p h
    simp only [setM] at h
    split at h
    · rename_i hk
      rcases List.mem_cons.1 h with h | h
      · exact .inl h
      · refine .inr ⟨List.mem_cons_of_mem _ h, fun e hn => ?_⟩
        simp only [List.map_cons, List.nodup_cons] at hn
        exact hn.1 (by rw [← hk, ← e]; exact List.mem_map_of_mem h)
    · rename_i hk
      rcases List.mem_cons.1 h with h | h
      · subst h; exact .inr ⟨List.mem_cons_self, fun e => absurd e.symm hk⟩
      · rcases ih h with h | ⟨h1, h2⟩
        · exact .inl h
        · refine .inr ⟨List.mem_cons_of_mem _ h1, fun e hn => h2 e ?_⟩
          simp only [List.map_cons, List.nodup_cons] at hn
          exact hn.2
theorem TabL.keysOk {w : World} {T MC MI : Nat} {loc : Int → Nat × Nat} {s : St} (h : TabL w T MC MI loc s) : (s.cs.map (·.1)).Nodup := by
  have := h.mc.nodup
  simpa [Function.comp_def] using this
/-- One client turns. -/
theorem TabL.turn {w w' : World} {T MC MI : Nat} {loc : Int → Nat × Nat} {s : St} {who : Int} {c c' : Cl} {used' : List (Int × Bool)} (h : TabL w T MC MI loc s) (hc : getM who s.cs = some c)
    (f : Fm (fun i => i = (loc who).1 ∨ i = (loc who).2 ∨ i = MI) w w') (h1 : w'.heap[(loc who).1]? = some (clientRow c'.newest (loc who).2)) (h2 : MapAt (Value.int .i64) .u16 w' (loc who).2 c'.ids) (h3 : MapAt Value.bool .i64 w' MI used') :
    TabL w' T MC MI loc ⟨setM who c' s.cs, used'⟩ := by
  have hm := getM_some hc
  have hf := h.far _ hm
  have hmT : ∀ {M α} {enc : α → Value} {q} {l}, MapAt enc q w M l → M ≠ T := by
    rintro M α enc q l ⟨es, c, h', _⟩ rfl
    rw [h.t] at h'; cases h'
  have hmA : ∀ {M α} {enc : α → Value} {q} {l}, MapAt enc q w M l → ∀ p ∈ s.cs, M ≠ (loc p.1).1 := by
    rintro M α enc q l ⟨es, c, h', _⟩ p hp rfl
    rw [(h.cl p hp).1] at h'; cases h'
  have hmem : ∀ p ∈ setM who c' s.cs, p = (who, c') ∨ (p ∈ s.cs ∧ p.1 ≠ who) := fun p hp => (mem_setM hp).imp id fun x => ⟨x.1, fun e => x.2 e h.keysOk⟩
  refine ⟨f.keep h.t ?_, ?_, h3, ?_, ?_, h.ne⟩
  · rintro (e | e | e)
    · exact hf.1 e.symm
    · exact hmT (h.cl _ hm).2 e.symm
    · exact hmT h.mi e.symm
  · have e : (setM who c' s.cs).map (fun p => (p.1, some (loc p.1).1)) = s.cs.map (fun p => (p.1, some (loc p.1).1)) := by
      have := congrArg (List.map fun k => (k, some (loc k).1)) (setM_keys (v' := c') hc)
      simpa [Function.comp_def] using this
    show MapAt ptrV .i64 w' MC ((setM who c' s.cs).map (fun p => (p.1, some (loc p.1).1)))
    rw [e]
    refine h.mc.keep f ?_
    rintro (e | e | e)
    · exact hmA h.mc _ hm e
    · exact hf.2.1 e.symm
    · exact h.ne e
  · intro p hp
    rcases hmem p hp with rfl | ⟨hp, hpw⟩
    · exact ⟨h1, h2⟩
    · have hfp := h.far p hp
      refine ⟨f.keep (h.cl p hp).1 ?_, (h.cl p hp).2.keep f ?_⟩
      · rintro (e | e | e)
        · exact (hfp.2.2.2 _ hm hpw).1 e
        · exact hmA (h.cl _ hm).2 p hp e.symm
        · exact hmA h.mi p hp e.symm
      · rintro (e | e | e)
        · exact hmA (h.cl p hp).2 _ hm e
        · exact (hfp.2.2.2 _ hm hpw).2 e
        · exact hfp.2.2.1 e
  · intro p hp
    have far : ∀ q ∈ setM who c' s.cs, ∃ q' ∈ s.cs, q'.1 = q.1 := fun q hq => by
      rcases hmem q hq with rfl | ⟨hq, _⟩
      · exact ⟨_, hm, rfl⟩
      · exact ⟨q, hq, rfl⟩
    obtain ⟨p', hp', ep⟩ := far p hp
    have hfp := h.far p' hp'
    rw [ep] at hfp
    refine ⟨hfp.1, hfp.2.1, hfp.2.2.1, fun q hq hne => ?_⟩
    obtain ⟨q', hq', eq⟩ := far q hq
    have := hfp.2.2.2 q' hq' (by rw [eq]; exact hne)
    rwa [eq] at this
def upd (loc : Int → Nat × Nat) (k : Int) (x : Nat × Nat) : Int → Nat × Nat := fun j => if j = k then x else loc j
theorem upd_at {loc : Int → Nat × Nat} {k : Int} {x : Nat × Nat} : upd loc k x k = x := if_pos rfl
theorem upd_ne {loc : Int → Nat × Nat} {k j : Int} {x : Nat × Nat} (h : j ≠ k) : upd loc k x j = loc j := if_neg h
/-- A client comes. -/
theorem TabL.come {w w1 w' : World} {T MC MI A I : Nat} {loc : Int → Nat × Nat} {s : St} {who : Int} {c : Cl} (h : TabL w T MC MI loc s) (hc : getM who s.cs = none)
    (f : Fm none' w w1) (hA : w.heap.size ≤ A) (hI : w.heap.size ≤ I) (hAI : A ≠ I) (h1 : w1.heap[A]? = some (clientRow c.newest I)) (h2 : MapAt (Value.int .i64) .u16 w1 I c.ids)
    (f2 : Fm (fun i => i = MC) w1 w') (h3 : MapAt ptrV .i64 w' MC (setM who (some A) (s.cs.map fun p => (p.1, some (loc p.1).1)))) :
    TabL w' T MC MI (upd loc who (A, I)) ⟨setM who c s.cs, s.used⟩ := by
  have hlt := h.lt
  have hB : InB (fun i => i < w.heap.size) T MC MI loc s := hlt
  have h' := h.keep (S := none') hB f (fun i x => x.elim)
  have hnw : ∀ p ∈ s.cs, p.1 ≠ who := fun p hp e => (getM_mem.1 hc) (by rw [← e]; exact List.mem_map_of_mem hp)
  have hmT : ∀ {M α} {enc : α → Value} {q} {l}, MapAt enc q w M l → M ≠ T := by
    rintro M α enc q l ⟨es, c, hx, _⟩ rfl
    rw [h.t] at hx; cases hx
  have hmA : ∀ {M α} {enc : α → Value} {q} {l}, MapAt enc q w M l → ∀ p ∈ s.cs, M ≠ (loc p.1).1 := by
    rintro M α enc q l ⟨es, c, h', _⟩ p hp rfl
    rw [(h.cl p hp).1] at h'; cases h'
  rw [setM_none hc]
  have hmem : ∀ p ∈ s.cs ++ [(who, c)], p = (who, c) ∨ (p ∈ s.cs ∧ p.1 ≠ who) := by
    intro p hp
    rcases List.mem_append.1 hp with hp | hp
    · exact .inr ⟨hp, hnw p hp⟩
    · exact .inl (by simpa using hp)
  refine ⟨f2.keep h'.t fun e => hmT h.mc e.symm, ?_, h'.mi.keep f2 fun e => h.ne e.symm, ?_, ?_, h.ne⟩
  · show MapAt ptrV .i64 w' MC ((s.cs ++ [(who, c)]).map (fun p => (p.1, some (upd loc who (A, I) p.1).1)))
    have hg : getM who (s.cs.map fun p => (p.1, some (loc p.1).1)) = none := by rw [getM_map (f := fun p => some (loc p.1).1), hc]; rfl
    rw [setM_none hg] at h3
    rw [List.map_append, List.map_cons, List.map_nil, upd_at]
    rw [show s.cs.map (fun p => (p.1, some (upd loc who (A, I) p.1).1)) = s.cs.map (fun p => (p.1, some (loc p.1).1)) from List.map_congr_left fun p hp => by rw [upd_ne (hnw p hp)]]
    exact h3
  · intro p hp
    rcases hmem p hp with rfl | ⟨hp, hpw⟩
    · rw [upd_at]
      exact ⟨f2.keep h1 (by have := hlt.2.1; dsimp only; omega), h2.keep f2 (by have := hlt.2.1; omega)⟩
    · rw [upd_ne hpw]
      exact ⟨f2.keep (h'.cl p hp).1 fun e => hmA h.mc p hp e.symm, (h'.cl p hp).2.keep f2 (h.far p hp).2.1⟩
  · intro p hp
    rcases hmem p hp with rfl | ⟨hp, hpw⟩
    · rw [upd_at]
      have l1 := hlt.1
      have l2 := hlt.2.1
      have l3 := hlt.2.2.1
      refine ⟨by dsimp only; omega, by dsimp only; omega, by dsimp only; omega, fun q hq hne => ?_⟩
      rcases hmem q hq with rfl | ⟨hq, hqw⟩
      · exact absurd rfl hne
      · rw [upd_ne hqw]
        have := hlt.2.2.2 q hq
        exact ⟨by dsimp only; omega, by dsimp only; omega⟩
    · rw [upd_ne hpw]
      have hfp := h.far p hp
      refine ⟨hfp.1, hfp.2.1, hfp.2.2.1, fun q hq hne => ?_⟩
      rcases hmem q hq with rfl | ⟨hq, hqw⟩
      · rw [upd_at]
        have := hlt.2.2.2 p hp
        exact ⟨by dsimp only; omega, by dsimp only; omega⟩
      · rw [upd_ne hqw]
        exact hfp.2.2.2 q hq hne
theorem mem_delM {α : Type} {k : Int} {l : List (Int × α)} (hn : (l.map (·.1)).Nodup) {p : Int × α} : p ∈ delM k l ↔ p ∈ l ∧ p.1 ≠ k := by
  rw [delM_filter hn]; simp
theorem delM_map {α β : Type} {f : Int × α → β} {k : Int} : ∀ {l : List (Int × α)}, delM k (l.map fun p => (p.1, f p)) = (delM k l).map fun p => (p.1, f p) := by
  intro l
  induction l with
  | nil => rfl
  | cons p l ih =>
    simp only [List.map_cons, delM]
    split
    · rfl
    · simp [ih]
/-- A client goes. -/
theorem TabL.go {w w' : World} {T MC MI : Nat} {loc : Int → Nat × Nat} {s : St} {who : Int} (h : TabL w T MC MI loc s) (f2 : Fm (fun i => i = MC) w w') (h3 : MapAt ptrV .i64 w' MC (delM who (s.cs.map fun p => (p.1, some (loc p.1).1)))) :
    TabL w' T MC MI loc ⟨delM who s.cs, s.used⟩ := by
  have hmT : ∀ {M α} {enc : α → Value} {q} {l}, MapAt enc q w M l → M ≠ T := by
    rintro M α enc q l ⟨es, c, hx, _⟩ rfl
    rw [h.t] at hx; cases hx
  have hmA : ∀ {M α} {enc : α → Value} {q} {l}, MapAt enc q w M l → ∀ p ∈ s.cs, M ≠ (loc p.1).1 := by
    rintro M α enc q l ⟨es, c, h', _⟩ p hp rfl
    rw [(h.cl p hp).1] at h'; cases h'
  have hmem : ∀ p, p ∈ delM who s.cs → p ∈ s.cs := fun p hp => ((mem_delM h.keysOk).1 hp).1
  refine ⟨f2.keep h.t fun e => hmT h.mc e.symm, ?_, h.mi.keep f2 fun e => h.ne e.symm, ?_, ?_, h.ne⟩
  · rw [delM_map (f := fun p => some (loc p.1).1)] at h3
    exact h3
  · intro p hp
    have hp := hmem p hp
    exact ⟨f2.keep (h.cl p hp).1 fun e => hmA h.mc p hp e.symm, (h.cl p hp).2.keep f2 (h.far p hp).2.1⟩
  · intro p hp
    have hp := hmem p hp
    exact ⟨(h.far p hp).1, (h.far p hp).2.1, (h.far p hp).2.2.1, fun q hq => (h.far p hp).2.2.2 q (hmem q hq)⟩

/-! ### The methods -/
theorem new8_c (w : World) : callV Try.prog 8 [] w fun v w' => ∃ T, v = .pointer (some ⟨T, 0, none⟩) ∧ TabAt w' (fun i => w.heap.size ≤ i ∧ i < w'.heap.size) T ⟨[], []⟩ ∧ Fm none' w w' := by
  refine vc8 w _ ?_
  refine makeM (enc := ptrV) (q := .i64) fun w1 hm1 hs1 hf1 => ?_
  refine makeM (enc := Value.bool) (q := .i64) fun w2 hm2 hs2 hf2 => ?_
  refine allocC_of fun w3 hb hs3 hf3 => ?_
  refine ⟨_, rfl, ⟨_, _, fun _ => (0, 0), ⟨hb, (hm1.keep hf2 id).keep hf3 id, hm2.keep hf3 id, by simp, by simp, by omega⟩, ⟨by omega, by omega, by omega, by simp⟩⟩, (hf1.trans hf2).trans hf3⟩
def askS (s : St) (who p : Int) : Int × Int :=
  match getM who s.cs with
  | none => (0, 6)
  | some c => match getM p c.ids with
    | some id => (id, 0)
    | none => if reach c.newest p then (0, 6) else (0, 7)
theorem ask11_c {T MC MI : Nat} {loc : Int → Nat × Nat} {s : St} {w : World} (who p : Int) (h : TabL w T MC MI loc s) :
    callV Try.prog 11 [.pointer (some ⟨T, 0, none⟩), .int .i64 who, .int .u16 p] w fun v w' => v = .tuple #[.int .i64 (askS s who p).1, .int .i64 (askS s who p).2] ∧ w' = w := by
  refine vc11 ⟨T, 0, none⟩ who p w _ (rd_of (v := .map (some MC)) (cellOf h.t rfl) ?_)
  refine lookup_1 (z := none) (by rw [row40]) (by rw [row3]) (by rw [row44]; rfl) h.mc ?_
  rw [getM_map (f := fun p => some (loc p.1).1)]
  unfold askS
  cases hc : getM who s.cs with
  | none =>
    simp only [Option.map_none, Option.getD_none, ptrV, isB_i, isK_i, isP_i, isTup_i, isInt_i, isSl_i, isPtr_i, isCs_i, isStr_i, isFn_i, isIf_i, rd_i, br_t, br_f, orO_s, orO_n, gd_t, bv_add, bv_sub, bv_mul, bv_eql, bv_neq, bv_lss, bv_leq, bv_gtr, bv_geq, bv_quo, bv_rem, bv_shl, bv_shr, bv_seq, bv_sne, bv_ptr, bv_if, bv_map, bv_nf, bv_bool, bv_sl, bv_fn, uv_not, uv_neg, eqV, nilV, nc_ptr, nc_fn, nc_if, Option.map_some, toN, Nat.mul_one, implies_true, true_and, and_true, and_self, Option.isNone_none]
  | some c =>
    have hcl := h.cl _ (getM_some hc)
    simp only [Option.map_some, Option.getD_some, ptrV, isB_i, isK_i, isP_i, isTup_i, isInt_i, isSl_i, isPtr_i, isCs_i, isStr_i, isFn_i, isIf_i, rd_i, br_t, br_f, orO_s, orO_n, gd_t, bv_add, bv_sub, bv_mul, bv_eql, bv_neq, bv_lss, bv_leq, bv_gtr, bv_geq, bv_quo, bv_rem, bv_shl, bv_shr, bv_seq, bv_sne, bv_ptr, bv_if, bv_map, bv_nf, bv_bool, bv_sl, bv_fn, uv_not, uv_neg, eqV, nilV, nc_ptr, nc_fn, nc_if, Option.map_some, toN, Nat.mul_one, implies_true, true_and, and_true, and_self, Option.isNone_some]
    refine rd_of (v := .map (some (loc who).2)) (cellOf hcl.1 rfl) ?_
    refine lookup_ok (z := 0) (by rw [row45]) (by rw [row26]) (by rw [row3]) hcl.2 ?_
    simp only [isB_i, isK_i, isP_i, isTup_i, isInt_i, isSl_i, isPtr_i, isCs_i, isStr_i, isFn_i, isIf_i, rd_i, br_t, br_f, orO_s, orO_n, gd_t, bv_add, bv_sub, bv_mul, bv_eql, bv_neq, bv_lss, bv_leq, bv_gtr, bv_geq, bv_quo, bv_rem, bv_shl, bv_shr, bv_seq, bv_sne, bv_ptr, bv_if, bv_map, bv_nf, bv_bool, bv_sl, bv_fn, uv_not, uv_neg, eqV, nilV, nc_ptr, nc_fn, nc_if, Option.map_some, toN, Nat.mul_one, implies_true, true_and, and_true, and_self, List.getElem?_cons_zero, List.getElem?_cons_succ]
    cases hp : getM p c.ids with
    | some id => simp only [Option.getD_some, Option.isSome_some, isB_i, isK_i, isP_i, isTup_i, isInt_i, isSl_i, isPtr_i, isCs_i, isStr_i, isFn_i, isIf_i, rd_i, br_t, br_f, orO_s, orO_n, gd_t, bv_add, bv_sub, bv_mul, bv_eql, bv_neq, bv_lss, bv_leq, bv_gtr, bv_geq, bv_quo, bv_rem, bv_shl, bv_shr, bv_seq, bv_sne, bv_ptr, bv_if, bv_map, bv_nf, bv_bool, bv_sl, bv_fn, uv_not, uv_neg, eqV, nilV, nc_ptr, nc_fn, nc_if, Option.map_some, toN, Nat.mul_one, implies_true, true_and, and_true, and_self]
    | none =>
      simp only [Option.getD_none, Option.isSome_none, isB_i, isK_i, isP_i, isTup_i, isInt_i, isSl_i, isPtr_i, isCs_i, isStr_i, isFn_i, isIf_i, rd_i, br_t, br_f, orO_s, orO_n, gd_t, bv_add, bv_sub, bv_mul, bv_eql, bv_neq, bv_lss, bv_leq, bv_gtr, bv_geq, bv_quo, bv_rem, bv_shl, bv_shr, bv_seq, bv_sne, bv_ptr, bv_if, bv_map, bv_nf, bv_bool, bv_sl, bv_fn, uv_not, uv_neg, eqV, nilV, nc_ptr, nc_fn, nc_if, Option.map_some, toN, Nat.mul_one, implies_true, true_and, and_true, and_self]
      refine (reach15_c p hcl.1).mono ?_
      rintro _ w1 ⟨rfl, rfl⟩
      simp only [isB_i, isK_i, isP_i, isTup_i, isInt_i, isSl_i, isPtr_i, isCs_i, isStr_i, isFn_i, isIf_i, rd_i, br_t, br_f, orO_s, orO_n, gd_t, bv_add, bv_sub, bv_mul, bv_eql, bv_neq, bv_lss, bv_leq, bv_gtr, bv_geq, bv_quo, bv_rem, bv_shl, bv_shr, bv_seq, bv_sne, bv_ptr, bv_if, bv_map, bv_nf, bv_bool, bv_sl, bv_fn, uv_not, uv_neg, eqV, nilV, nc_ptr, nc_fn, nc_if, Option.map_some, toN, Nat.mul_one, implies_true, true_and, and_true, and_self]
      cases reach c.newest p <;> simp [br]
/-- drop of what g says. -/
def dropS (g : Int → Bool) (who : Int) (c : Cl) (s : St) : St := ⟨setM who ⟨c.newest, left g [] c.ids⟩ s.cs, idsLeft g [] c.ids s.used⟩
theorem setM_mem_iff {who : Int} {c c' : Cl} {s : St} (hc : getM who s.cs = some c) {B : Nat → Prop} {T MC MI : Nat} {loc : Int → Nat × Nat} {used' : List (Int × Bool)} (h : InB B T MC MI loc s) : InB B T MC MI loc ⟨setM who c' s.cs, used'⟩ := by
  refine ⟨h.1, h.2.1, h.2.2.1, fun p hp => ?_⟩
  have : p.1 ∈ s.cs.map (·.1) := by rw [← setM_keys (v' := c') hc]; exact List.mem_map_of_mem hp
  obtain ⟨q, hq, e⟩ := List.mem_map.1 this
  have := h.2.2.2 q hq
  rwa [e] at this
theorem drop18_c {T MC MI : Nat} {loc : Int → Nat × Nat} {s : St} {w : World} {who : Int} {c : Cl} {g : Int → Bool} {fn : Fn} {n : Nat} {fst cpt : Array Value} (Pw : World → Prop) (h : TabL w T MC MI loc s) (hc : getM who s.cs = some c) (hfn : fnId fn = some n)
    (hP : Pw w) (hPk : ∀ w1 w2, Pw w1 → Fm (fun i => i = (loc who).2 ∨ i = MI ∨ w.heap.size ≤ i) w1 w2 → Pw w2)
    (hG : ∀ w' k, Pw w' → callV Try.prog n (fst.toList ++ [.int .u16 k] ++ cpt.toList) w' fun v w'' => v = .bool (g k) ∧ w'' = w') :
    callV Try.prog 18 [.pointer (some ⟨T, 0, none⟩), .pointer (some ⟨(loc who).1, 0, none⟩), .func fn fst cpt] w fun v w' => v = .tuple #[] ∧ TabL w' T MC MI loc (dropS g who c s) ∧ Fm (fun i => i = (loc who).2 ∨ i = MI) w w' := by
  have hm := getM_some hc
  have hlt := h.lt
  have hcl := h.cl _ hm
  refine vc18 ⟨T, 0, none⟩ ⟨_, 0, none⟩ _ w _ ?_
  refine allocC_of fun w1 hb1 hs1 hf1 => ?_
  refine rd_of rfl ?_
  refine allocC_of fun w3 hb3 hs3 hf3 => ?_
  have h3 := (h.keep (S := none') hlt (hf1.trans hf3) (fun i x => x.elim))
  have hcl3 := h3.cl _ hm
  refine rd_of (v := .map (some (loc who).2)) (cellOf hcl3.1 rfl) ?_
  refine (del22_c (T := T) (MC := MC) (MI := MI) (l := c.ids) (m := s.used) (g := g) _ _ fn n fst cpt Pw hfn hcl3.2 h3.mi (h.far _ hm).2.2.1 h3.t hb3 (hf3.keep hb1 id)
    (hPk _ _ hP ((hf1.trans hf3).mono fun i _ x => x.elim)) (fun w1 w2 p f => hPk _ _ p (f.mono fun i _ x => by rcases x with x | x | x; exact .inl x; exact .inr (.inl x); exact .inr (.inr (by omega)))) hG).mono ?_
  rintro _ w4 ⟨hI, hMI, hf4⟩
  refine ⟨rfl, ?_, ?_⟩
  · have hAI : ∀ {M}, (M = (loc who).2 ∨ M = MI) → (loc who).1 ≠ M := by
      rintro M (rfl | rfl) e
      · obtain ⟨es, k, hx, _⟩ := hcl.2; rw [← e, hcl.1] at hx; cases hx
      · obtain ⟨es, k, hx, _⟩ := h.mi; rw [← e, hcl.1] at hx; cases hx
    exact h3.turn (c' := ⟨c.newest, left g [] c.ids⟩) hc (hf4.mono fun i _ x => .inr x) (hf4.keep hcl3.1 fun x => hAI x rfl) hI hMI
  · exact ((hf1.trans hf3).mono fun i _ x => x.elim).trans hf4
end Go.Proofs.Ytfdbojnikoonbaa
