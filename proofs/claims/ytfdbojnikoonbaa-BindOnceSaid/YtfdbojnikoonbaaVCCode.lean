/- Conditions for lists of operations, for code, for functions; they are sound.  Conditions: none (a general text, over any program). -/
import Derived.Test.YtfdbojnikoonbaaVCOps
import Derived.OrdersHeld
namespace Go.Proofs.Ytfdbojnikoonbaa.VC
set_option linter.unusedSimpArgs false
set_option linter.unusedVariables false
open Go Go.RowKit

/-! ### Lists of operations -/
/-- The operation's guard: each way goes on in the frame in which the guard's slot says what it is. -/
def gateB (g : Bool) (v : Value) (B : Bool → Prop) (U : Prop) : Prop :=
  match g with
  | false => isB v B
  | true => match v with
    | .bool b => B b
    | .tuple _ => U
    | _ => False
theorem gateB_ex {g : Bool} {v : Value} {B : Bool → Prop} {U : Prop} (h : gateB g v B U) : (∃ b, v = .bool b ∧ B b) ∨ (∃ vs, v = .tuple vs ∧ g = true ∧ U) := by
  unfold gateB at h
  split at h
  · exact .inl (isB_ex h)
  · split at h
    · exact .inl ⟨_, rfl, h⟩
    · exact .inr ⟨_, rfl, rfl, h⟩
    · exact h.elim
def gsel (want : Bool) (e : Env) (d : Nat) (K1 K2 : Env → Prop) (b : Bool) : Prop :=
  match want with
  | true => br b (K1 (put e (some d) (.bool true))) (K2 (put e (some d) (.bool false)))
  | false => br b (K2 (put e (some d) (.bool true))) (K1 (put e (some d) (.bool false)))
def gate (N : Nat) (s : Option (Nat × Bool)) (e : Env) (want : Bool) (K1 K2 : Env → Prop) : Prop :=
  match s with
  | some (d, g) => rd (cond (Nat.blt d N) (some (e d)) none) fun v => gateB g v (fun b => gsel want e d K1 K2 b) (K2 e)
  | none => False
def gslot (all : List Oper) (j : Nat) : Option (Nat × Bool) := (all[j]?).bind fun o => o.dst.map fun d => (d, o.guard.isSome)
def isK (k : IntKind) (v : Value) (K : Int → Prop) : Prop := match v with | .int k' i => (match ikEq k' k with | true => K i | false => False) | _ => False
def isP (v : Value) (K : Option Addr → Prop) : Prop := match v with | .pointer a => K a | _ => False
/-- A value of a plain type is written as what it is. -/
def typed (P : Program) (t : TypeId) (v : Value) (K : Value → Prop) : Prop :=
  match (row P t).k with
  | .bool => isB v fun b => K (.bool b)
  | .int k => isK k v fun i => K (.int k i)
  | .string => isStr v fun s => K (.string s)
  | .slice _ => isSl v fun a n c => K (.slice a n c)
  | .ptr _ => isP v fun a => K (.pointer a)
  | _ => K v
def typedO (P : Program) (o : Oper) (v : Value) (K : Value → Prop) : Prop :=
  match o.dst with
  | some _ => typed P o.type v K
  | none => K v
theorem typed_mono {P : Program} {t : TypeId} {v : Value} {K K' : Value → Prop} (h : typed P t v K) (hk : K v → K' v) : typed P t v K' := by
  unfold typed at h ⊢
  split
  · rename_i hr; rw [hr] at h; obtain ⟨b, rfl, h⟩ := isB_ex h; exact hk h
  · rename_i k hr
    rw [hr] at h
    cases v <;> simp only [isK] at h ⊢
    rename_i k' i
    split at h
    · rename_i he
      obtain rfl := ikEq_eq he
      exact hk h
    · exact h.elim
  · rename_i hr; rw [hr] at h; obtain ⟨b, rfl, h⟩ := isStr_ex h; exact hk h
  · rename_i hr; rw [hr] at h; obtain ⟨a, n, c, rfl, h⟩ := isSl_ex h; exact hk h
  · rename_i hr
    rw [hr] at h
    cases v <;> simp only [isP] at h ⊢
    exact hk h
  · rename_i h1 h2 h3 h4 h5
    split at h
    · rename_i hr; exact absurd hr h1
    · rename_i hr; exact absurd hr (h2 _)
    · rename_i hr; exact absurd hr h3
    · rename_i hr; exact absurd hr (h4 _)
    · rename_i hr; exact absurd hr (h5 _)
    · exact hk h
theorem typedO_mono {P : Program} {o : Oper} {v : Value} {K K' : Value → Prop} (h : typedO P o v K) (hk : K v → K' v) : typedO P o v K' := by
  unfold typedO at h ⊢
  split
  · rename_i hd; rw [hd] at h; exact typed_mono h hk
  · rename_i hd; rw [hd] at h; exact hk h
theorem typed_elim {P : Program} {t : TypeId} {v : Value} {K : Value → Prop} (h : typed P t v K) : K v := by
  unfold typed at h
  split at h
  · obtain ⟨b, rfl, h⟩ := isB_ex h; exact h
  · cases v <;> simp only [isK] at h
    rename_i k' i
    split at h
    · rename_i he
      obtain rfl := ikEq_eq he
      exact h
    · exact h.elim
  · obtain ⟨b, rfl, h⟩ := isStr_ex h; exact h
  · obtain ⟨a, n, c, rfl, h⟩ := isSl_ex h; exact h
  · cases v <;> simp only [isP] at h
    exact h
  · exact h
theorem typedO_elim {P : Program} {o : Oper} {v : Value} {K : Value → Prop} (h : typedO P o v K) : K v := by
  unfold typedO at h
  split at h
  · exact typed_elim h
  · exact h
def opg (P : Program) (N : Nat) (all : List Oper) (o : Oper) (e : Env) (w : World) (K : Env → World → Prop) : Prop :=
  match o.guard with
  | none => opv P N o.type e w (fun v w' => typedO P o v fun v => K (put e o.dst v) w') o.op
  | some (j, want) => gate N (gslot all j) e want (fun e => opv P N o.type e w (fun v w' => typedO P o v fun v => K (put e o.dst v) w') o.op) (fun e => K (put e o.dst undef) w)
def ops (P : Program) (N : Nat) (all : List Oper) : List Oper → (Env → World → Prop) → Env → World → Prop
  | [], K, e, w => K e w
  | o :: rest, K, e, w => opg P N all o e w (fun e' w' => ops P N all rest K e' w')

/-! ### Regions whose order is open -/
inductive Plan where
  | done
  | take (i : Nat) (p : Plan)
  | one (i : Nat) (p : Plan)
  | two (i : Nat) (p : Plan) (j : Nat) (q : Plan)
def Plan.size : Plan → Nat
  | .done => 0
  | .take _ p => p.size + 1
  | .one _ p => p.size + 1
  | .two _ p _ q => max p.size q.size + 1
def planOk (l : Array Oper) : Plan → Array Bool → Bool
  | .done, s => (Region.ready .any l s).isEmpty
  | .take i p, s => Region.free .any l s i && (Region.ready .any l s).contains i && decide (i < l.size) && (match l[i]? with | some o => quietOp o.op | none => false) && planOk l p (s.setIfInBounds i true)
  | .one i p, s => Region.ready .any l s == [i] && decide (i < l.size) && planOk l p (s.setIfInBounds i true)
  | .two i p j q, s => Region.ready .any l s == [i, j] && decide (i < l.size) && decide (j < l.size) && planOk l p (s.setIfInBounds i true) && planOk l q (s.setIfInBounds j true)
def planFit (l : Array Oper) (p : Plan) : Bool := (Region.noSelect l && decide (p.size ≤ l.size)) && planOk l p (Array.replicate l.size false)
def lexPlan : Nat → Nat → Plan
  | 0, _ => .done
  | n + 1, i => .take i (lexPlan n (i + 1))
/-- Operations that only look. -/
def shortOk (P : Program) (b : Builtin) (ts : List TypeId) (n : Nat) : Bool :=
  match b, ts, n with
  | .len, [t], 1 => match (row P t).k with | .slice _ => true | .string => true | _ => false
  | .max, [t, _], 2 => match (row P t).k with | .int _ => true | _ => false
  | .min, [t, _], 2 => match (row P t).k with | .int _ => true | _ => false
  | _, _, _ => false
def intK : K → Bool
  | .int _ => true
  | _ => false
def readsOp (P : Program) : Op → Bool
  | .move _ | .assign _ | .pick .. | .load .. | .nilCheck _ | .binOp .. | .unOp .. | .fieldAddr .. | .field .. | .indexAddr .. | .extract .. | .makeInterface .. | .makeFunc .. => true
  | .convert s d _ => intK (row P s).k && intK (row P d).k
  | .call { callee := .builtin b, args, argTypes } => shortOk P b argTypes.toList args.toList.length
  | _ => false
/-- o yields one value in every world of S. -/
def takeC (P : Program) (N : Nat) (S : World → Prop) (all : List Oper) (o : Oper) (e : Env) (w : World) (K : Env → Prop) : Prop :=
  match o.guard with
  | none => opv P N o.type e w (fun v _ => (∀ w', S w' → opv P N o.type e w' (fun v' w'' => v' = v ∧ w'' = w') o.op) ∧ typedO P o v fun v => K (put e o.dst v)) o.op
  | some (j, want) => gate N (gslot all j) e want (fun e => opv P N o.type e w (fun v _ => (∀ w', S w' → opv P N o.type e w' (fun v' w'' => v' = v ∧ w'' = w') o.op) ∧ typedO P o v fun v => K (put e o.dst v)) o.op) (fun e => K (put e o.dst undef))
def drawC (P : Program) (N : Nat) (l : List Oper) (S : World → Prop) (K : Env → World → Prop) : Plan → Env → World → Prop
  | .done, e, w => K e w
  | .take i p, e, w => rd l[i]? fun o => takeC P N S l o e w fun e' => drawC P N l S K p e' w
  | .one i p, e, w => rd l[i]? fun o => opg P N l o e w fun e' w' => S w' ∧ drawC P N l S K p e' w'
  | .two i p j q, e, w => (rd l[i]? fun o => opg P N l o e w fun e' w' => S w' ∧ drawC P N l S K p e' w') ∧ (rd l[j]? fun o => opg P N l o e w fun e' w' => S w' ∧ drawC P N l S K q e' w')

/-! ### Code -/
def headId : Code → Option Nat
  | .region id _ _ => some id
  | .seq a _ => headId a
  | .block _ a => headId a
  | .loop a => headId a
  | _ => none
def dsts : List Oper → List Nat
  | [] => []
  | o :: l => match o.dst with
    | some d => ins d (dsts l)
    | none => dsts l
def writes : Code → List Nat
  | .region _ l _ => dsts l.toList
  | .seq a b => uni (writes a) (writes b)
  | .cond _ a b => uni (writes a) (writes b)
  | .block _ a => writes a
  | .loop a => writes a
  | _ => []
abbrev Post := Exit → Env → World → Prop
structure Hints where
  cut : Nat → Bool
  plan : Nat → Plan
  live : Nat → List Nat
def liveAt (H : Hints) (b : Code) : List Nat :=
  match headId b with
  | some i => H.live i
  | none => writes b
def cutAt (H : Hints) (b : Code) : Bool :=
  match headId b with
  | some i => H.cut i
  | none => false
/-- The frame in which a slot that was asked says what it is. -/
def putO (e : Env) (c : Operand) (t : Bool) : Env := match c with | .tmp d => put e (some d) (.bool t) | _ => e
def code (P : Program) (H : Hints) (N : Nat) : Code → Post → Env → World → Prop
  | .skip, Q, e, w => Q .normal e w
  | .region id l d, Q, e, w => match d with
    | false => ops P N l.toList l.toList (fun e' w' => Q .normal e' w') e w
    | true => match (l.toList.all fun o => readsOp P o.op) && planFit l (lexPlan l.size 0) with
      | true => ops P N l.toList l.toList (fun e' w' => Q .normal e' w') e w.drew
      | false => match planFit l (H.plan id) with
        | true => heldC w.drew fun S => drawC P N l.toList S (fun e' w' => Q .normal e' w') (H.plan id) e w.drew
        | false => False
  | .seq a b, Q, e, w =>
    match cutAt H b with
    | true => cutC (fun J => code P H N a (fun x e' w' => match x with | .normal => J (alist (pairs (liveAt H b) e')) w' | x => Q x e' w') e w) fun J => ∀ (u : Nat → Value) (w' : World), J (alist (pairs (liveAt H b) (havoc (writes a) u e))) w' → code P H N b Q (havoc (writes a) u e) w'
    | false => code P H N a (fun x e' w' => match x with | .normal => code P H N b Q e' w' | x => Q x e' w') e w
  | .cond c a b, Q, e, w => isB (ev N e c) fun t => br t (code P H N a Q (putO e c true) w) (code P H N b Q (putO e c false) w)
  | .block id c, Q, e, w => code P H N c (fun x e' w' => match x with | .exit id' => (match Nat.beq id' id with | true => Q .normal e' w' | false => Q (.exit id') e' w') | x => Q x e' w') e w
  | .loop c, Q, e, w => loopC (alist (pairs (liveAt H c) e)) w fun I μ => ∀ (u : Nat → Value) (w' : World), I (alist (pairs (liveAt H c) (havoc (writes c) u e))) w' →
      code P H N c (fun x e'' w'' => match x with | .normal => again I μ (alist (pairs (liveAt H c) e'')) w'' (alist (pairs (liveAt H c) (havoc (writes c) u e))) w' | x => Q x e'' w'') (havoc (writes c) u e) w'
  | .exit id, Q, e, w => Q (.exit id) e w
  | .ret, Q, e, w => Q .ret e w
  | _, _, _, _ => False

def resV (N : Nat) (rs : List ResultVar) (e : Env) (w : World) (P : Program) (K : List Value → Prop) : Prop :=
  match rs with
  | [] => K []
  | .tmp t :: rs => resV N rs e w P fun vs => K ((cond (Nat.blt t N) (e t) undef) :: vs)
  | .cell a t :: rs => isPtr (cond (Nat.blt a N) (e a) undef) fun ad => loadC P w t ad fun v => resV N rs e w P fun vs => K (v :: vs)
def resK (vs : List Value) : Value := match vs with | [v] => v | vs => .tuple vs.toArray
def fn (P : Program) (H : Hints) (f : Func) (args : List Value) (w : World) (R : Value → World → Prop) : Prop :=
  rd f.body fun c => rd (gd (Nat.ble args.length f.ntmps && (writes c).all fun s => Nat.blt s f.ntmps)) fun _ => code P H f.ntmps c (fun x e w' => match x with
    | .normal => resV f.ntmps f.results.toList e w' P fun vs => R (resK vs) w'
    | .ret => resV f.ntmps f.results.toList e w' P fun vs => R (resK vs) w'
    | _ => False) (fun s => args.getD s undef) w

/-! ### Soundness -/
section
variable {P : Program} {N : Nat}
def lift (N : Nat) (Q : Post) : Exit → Act → World → Prop := fun x a w => ∃ e, a = act N e ∧ Q x e w

theorem wanted_none {o : Oper} (h : o.guard = none) (y : Nat → Option Bool) : Region.wanted o y = true := by simp [Region.wanted, h]
def boolOf (v : Value) : Option Bool := match v with | .bool b => some b | _ => none
theorem put_same {e : Env} {d : Nat} {v : Value} (h : e d = v) : put e (some d) v = e := by
  funext s
  simp only [put]
  cases hb : Nat.beq s d with
  | false => rfl
  | true => obtain rfl := Nat.eq_of_beq_eq_true hb; exact h.symm
theorem putO_same {e : Env} {c : Operand} {t : Bool} (h : ev N e c = .bool t) : putO e c t = e := by
  cases c with
  | tmp d =>
    refine put_same ?_
    simp only [ev] at h
    cases hd : Nat.blt d N with
    | false => rw [hd] at h; simp [undef] at h
    | true => rw [hd] at h; exact h
  | _ => rfl
theorem gate_elim {all : List Oper} {e : Env} {o : Oper} {j : Nat} {want : Bool} {K1 K2 : Env → Prop} (hg : o.guard = some (j, want)) (h : gate N (gslot all j) e want K1 K2) :
    (Region.wanted o (yielded all.toArray (act N e).tmps) = true ∧ K1 e) ∨ (Region.wanted o (yielded all.toArray (act N e).tmps) = false ∧ K2 e) := by
  unfold gate at h
  split at h
  · rename_i d g hs
    obtain ⟨v, hv, h⟩ := rd_ex h
    have hy : yielded all.toArray (act N e).tmps j = boolOf v := by
      unfold gslot at hs
      simp only [Option.bind_eq_some_iff, Option.map_eq_some_iff, Prod.mk.injEq] at hs
      obtain ⟨oj, hoj, d', hd', rfl, _⟩ := hs
      unfold yielded
      simp only [List.getElem?_toArray, hoj, Option.bind_some, hd']
      rw [act_get, hv]
      cases v <;> rfl
    have he : e d = v := by
      cases hb : Nat.blt d N with
      | true => rw [hb] at hv; simpa using hv
      | false => rw [hb] at hv; cases hv
    have hw : Region.wanted o (yielded all.toArray (act N e).tmps) = (boolOf v == some want) := by
      unfold Region.wanted
      rw [hg]
      simp only
      rw [hy]
    rw [hw]
    rcases gateB_ex h with ⟨b, rfl, h3⟩ | ⟨vs, rfl, _, h3⟩
    · cases want <;> cases b <;> simp only [gsel, br] at h3
      all_goals (rw [put_same he] at h3; first | exact .inl ⟨rfl, h3⟩ | exact .inr ⟨rfl, h3⟩)
    · exact .inr ⟨by cases want <;> rfl, h3⟩
  · exact h.elim

theorem opg_wpOp {all : List Oper} {o : Oper} {i : Nat} (hi : all[i]? = some o) {e : Env} {w : World} {K : Env → World → Prop} {next : Act → World → Prop} {Q : Exit → Act → World → Prop}
    (hK : ∀ v w', K (put e o.dst v) w' → next (act N (put e o.dst v)) w') (h : opg P N all o e w K) : wpOp P all.toArray Q i next (act N e) w := by
  unfold wpOp
  have hi' : all.toArray[i]? = some o := by simpa using hi
  simp only [hi']
  unfold opg at h
  split at h
  · rename_i hg
    rw [if_pos (wanted_none hg _)]
    exact .inl (opv_sound (fun v w' ht => hK v w' (typedO_elim ht)) h)
  · rename_i j want hg
    rcases gate_elim hg h with ⟨hw, h⟩ | ⟨hw, h⟩
    · rw [if_pos hw]; exact .inl (opv_sound (fun v w' ht => hK v w' (typedO_elim ht)) h)
    · rw [if_neg (by simp [hw]), act_put]; exact hK _ _ h

theorem ops_sound {all : List Oper} {Q : Exit → Act → World → Prop} (S : List Nat) (e0 : Env) : ∀ (l : List Oper) (K : Env → World → Prop) (e : Env) (w : World), (∀ o ∈ l, ∀ d, o.dst = some d → mem d S = true) → Fr S e0 e →
    (∀ e' w', Fr S e0 e' → K e' w' → Q .normal (act N e') w') → ops P N all l K e w → wpList P all.toArray Q l (act N e) w := by
  intro l
  induction l with
  | nil => intro K e w _ hf hK h; exact hK e w hf h
  | cons o l ih =>
    intro K e w hd hf hK h
    simp only [ops] at h
    have next : ∀ v w', ops P N all l K (put e o.dst v) w' → wpList P all.toArray Q l (act N (put e o.dst v)) w' := fun v w' h' =>
      ih K _ w' (fun o' ho' => hd o' (by simp [ho'])) (hf.put _ _ (fun d e => hd o (by simp) d e)) hK h'
    unfold opg at h
    unfold wpList
    split at h
    · rename_i hg
      rw [if_pos (wanted_none hg _)]
      exact .inl (opv_sound (fun v w' ht => next v w' (typedO_elim ht)) h)
    · rename_i j want hg
      rcases gate_elim hg h with ⟨hw, h⟩ | ⟨hw, h⟩
      · rw [if_pos hw]; exact .inl (opv_sound (fun v w' ht => next v w' (typedO_elim ht)) h)
      · rw [if_neg (by simp [hw]), act_put]; exact next _ _ h

theorem takeC_elim {S : World → Prop} {all : List Oper} {o : Oper} {e : Env} {w : World} {K : Env → Prop} (hq : quietOp o.op = true) (h : takeC P N S all o e w K) : ∃ v, YieldsIf P all.toArray S o v (act N e) ∧ K (put e o.dst v) := by
  have key : opv P N o.type e w (fun v _ => (∀ w', S w' → opv P N o.type e w' (fun v' w'' => v' = v ∧ w'' = w') o.op) ∧ typedO P o v fun v => K (put e o.dst v)) o.op →
      ∃ v, (∀ w', S w' → (execOp (act N e).eval o).run P w' = .ok (.value v) w') ∧ K (put e o.dst v) := by
    intro h
    obtain ⟨v, w1, _, h2, hK⟩ := opv_value hq h
    refine ⟨v, fun w' hw' => ?_, typedO_elim hK⟩
    obtain ⟨v', w'', hr, rfl, rfl⟩ := opv_value hq (h2 w' hw')
    rw [act_eval]
    exact hr
  unfold takeC at h
  split at h
  · rename_i hg
    obtain ⟨v, hv, hK⟩ := key h
    exact ⟨v, .inl ⟨wanted_none hg _, hv⟩, hK⟩
  · rename_i j want hg
    rcases gate_elim hg h with ⟨hw, h⟩ | ⟨hw, h⟩
    · obtain ⟨v, hv, hK⟩ := key h
      exact ⟨v, .inl ⟨hw, hv⟩, hK⟩
    · exact ⟨undef, .inr ⟨hw, rfl⟩, h⟩

theorem drawC_sound {l : List Oper} {S : World → Prop} {Q : Exit → Act → World → Prop} (hQ : ∀ c a w, ¬ Q (.panic c) a w) (hsel : Region.noSelect l.toArray = true) (W : List Nat) (e0 : Env)
    (hd : ∀ o ∈ l, ∀ d, o.dst = some d → mem d W = true) {K : Env → World → Prop} (hK : ∀ e' w', Fr W e0 e' → K e' w' → Q .normal (act N e') w') :
    ∀ (p : Plan) (s : Array Bool) (n : Nat) (e : Env) (w : World), planOk l.toArray p s = true → Fr W e0 e → S w → (p.size ≤ n) → drawC P N l S K p e w → wpAnyH P .any l.toArray Q S n s (act N e) w := by
  intro p
  induction p with
  | done =>
    intro s n e w hok hf hS _ h
    simp only [planOk, List.isEmpty_iff] at hok
    exact wpAnyH_done hok (hK e w hf h) n
  | take i p ih =>
    intro s n e w hok hf hS hn h
    obtain ⟨n, rfl⟩ : ∃ m, n = m + 1 := ⟨n - 1, by simp only [Plan.size] at hn; omega⟩
    simp only [planOk, Bool.and_eq_true, decide_eq_true_eq] at hok
    obtain ⟨⟨⟨⟨h1, h2⟩, h3⟩, hq⟩, h4⟩ := hok
    obtain ⟨o, ho, h⟩ := rd_ex h
    have ho' : l.toArray[i]? = some o := by simpa using ho
    rw [ho'] at hq
    obtain ⟨v, hy, hk⟩ := takeC_elim hq h
    refine wpAnyH_take ho' hsel h1 h2 (fun c a w hp => (hQ _ _ _ hp).elim) hy hS ?_
    rw [act_put]
    exact ih _ _ _ _ h4 (hf.put _ _ fun d e => hd o (List.mem_of_getElem? ho) d e) hS (by simp only [Plan.size] at hn; omega) hk
  | one i p ih =>
    intro s n e w hok hf hS hn h
    obtain ⟨n, rfl⟩ : ∃ m, n = m + 1 := ⟨n - 1, by simp only [Plan.size] at hn; omega⟩
    simp only [planOk, Bool.and_eq_true, beq_iff_eq] at hok
    obtain ⟨⟨h1, _⟩, h4⟩ := hok
    simp only [drawC] at h
    obtain ⟨o, ho, h2⟩ := rd_ex h
    clear h
    have h := h2
    refine wpAnyH_all h1 (by simp) ?_
    intro j hj
    have hji : j = i := by simpa using hj
    subst hji
    exact opg_wpOp ho (fun v w' ⟨hS', h'⟩ => ⟨hS', ih _ _ _ _ h4 (hf.put _ _ fun d e => hd o (List.mem_of_getElem? ho) d e) hS' (by simp only [Plan.size] at hn; omega) h'⟩) h
  | two i p j q ihp ihq =>
    intro s n e w hok hf hS hn h
    obtain ⟨n, rfl⟩ : ∃ m, n = m + 1 := ⟨n - 1, by simp only [Plan.size] at hn; omega⟩
    simp only [planOk, Bool.and_eq_true, beq_iff_eq] at hok
    obtain ⟨⟨⟨⟨h1, _⟩, _⟩, h4⟩, h5⟩ := hok
    simp only [drawC] at h
    obtain ⟨hl, hr⟩ := h
    obtain ⟨o, ho, h⟩ := rd_ex hl
    obtain ⟨o', ho', h'⟩ := rd_ex hr
    refine wpAnyH_all h1 (by simp) ?_
    intro k hk
    have hk' : k = i ∨ k = j := by simpa using hk
    simp only [Plan.size] at hn
    rcases hk' with hk' | hk' <;> subst hk'
    · exact opg_wpOp ho (fun v w' ⟨hS', h'⟩ => ⟨hS', ihp _ _ _ _ h4 (hf.put _ _ fun d e => hd o (List.mem_of_getElem? ho) d e) hS' (by omega) h'⟩) h
    · exact opg_wpOp ho' (fun v w' ⟨hS', h''⟩ => ⟨hS', ihq _ _ _ _ h5 (hf.put _ _ fun d e => hd o' (List.mem_of_getElem? ho') d e) hS' (by omega) h''⟩) h'

theorem bShort_ok {b : Builtin} {ts : List TypeId} {vs : List Value} {n : Nat} (h : shortOk P b ts n = true) (hn : vs.length = n) : bShort P b ts vs ≠ .no := by
  unfold shortOk at h
  unfold bShort
  split at h
  · match vs, hn with
    | [x], _ => simp only; split at h <;> first | (cases h; done) | (rename_i hk; simp [hk])
  · match vs, hn with
    | [x, y], _ => simp only; split at h <;> first | (cases h; done) | (rename_i hk; simp [hk])
  · match vs, hn with
    | [x, y], _ => simp only; split at h <;> first | (cases h; done) | (rename_i hk; simp [hk])
  · cases h
theorem opv_same {ty : TypeId} {e : Env} {w : World} {K : Value → World → Prop} {op : Op} (hr : readsOp P op = true) (h : opv P N ty e w K op) :
    ∃ v, K v w ∧ ∀ K' : Value → World → Prop, K' v w → opv P N ty e w K' op := by
  cases op with
  | move x => exact ⟨_, h, fun _ h => h⟩
  | assign x => exact ⟨_, h, fun _ h => h⟩
  | pick c a b => obtain ⟨t, ht, h⟩ := isB_ex h; exact ⟨_, h, fun K' h => by simp only [opv, ht]; exact h⟩
  | load t a =>
    obtain ⟨ad, ha, h⟩ := isPtr_ex h
    unfold loadC at h
    split at h
    · rename_i hg; obtain ⟨cs, hc, h⟩ := rd_ex h; exact ⟨_, h, fun K' h => by simp only [opv, ha, isPtr, loadC, hg, rd, hc]; exact h⟩
    · rename_i hg; obtain ⟨u, hu, h⟩ := rd_ex h; obtain ⟨v, hv, h⟩ := rd_ex h; exact ⟨_, h, fun K' h => by simp only [opv, ha, isPtr, loadC, hg, rd, hu, hv]; exact h⟩
  | nilCheck x => obtain ⟨v, hv, h⟩ := rd_ex h; exact ⟨_, h, fun K' h => by simp only [opv, hv]; exact h⟩
  | binOp o t x y t' => obtain ⟨v, hv, h⟩ := rd_ex h; exact ⟨_, h, fun K' h => by simp only [opv, hv]; exact h⟩
  | unOp o t x => obtain ⟨v, hv, h⟩ := rd_ex h; exact ⟨_, h, fun K' h => by simp only [opv, hv]; exact h⟩
  | fieldAddr s x f =>
    simp only [opv] at h
    split at h
    · rename_i fs hk
      obtain ⟨a, ha, h⟩ := isPtr_ex h; obtain ⟨fd, hf, h⟩ := rd_ex h; obtain ⟨u, hb, h⟩ := rd_ex h
      exact ⟨_, h, fun K' h => by simp only [opv, hk, ha, isPtr, rd, hf, hb]; exact h⟩
    · exact h.elim
  | field t x f =>
    simp only [opv] at h
    split at h
    · rename_i fs hk
      obtain ⟨cs, ha, h⟩ := isCs_ex h; obtain ⟨fd, hf, h⟩ := rd_ex h
      unfold partC at h
      split at h
      · rename_i hg
        exact ⟨_, h, fun K' h => by simp only [opv, hk, ha, isCs, rd, hf, partC, hg]; exact h⟩
      · rename_i hg; obtain ⟨u, hu, h⟩ := rd_ex h; obtain ⟨v, hv, h⟩ := rd_ex h
        exact ⟨_, h, fun K' h => by simp only [opv, hk, ha, isCs, rd, hf, partC, hg, hu, hv]; exact h⟩
    · exact h.elim
  | indexAddr t x ix =>
    simp only [opv] at h
    split at h
    · rename_i el hk
      obtain ⟨k, i, hi, h⟩ := isInt_ex h; obtain ⟨a, n, c, hx, h⟩ := isSl_ex h; obtain ⟨ad, ha, h⟩ := rd_ex h; obtain ⟨u, hb, hn, h⟩ := rd_ex h
      exact ⟨_, h, fun K' h => by simp only [opv, hk, hi, hx, isInt, isSl, ha, rd, hb]; exact ⟨hn, h⟩⟩
    · rename_i n el hk
      obtain ⟨k, i, hi, h⟩ := isInt_ex h; obtain ⟨ad, hx, h⟩ := isPtr_ex h; obtain ⟨u, hb, hn, h⟩ := rd_ex h
      exact ⟨_, h, fun K' h => by simp only [opv, hk, hi, hx, isInt, isPtr, rd, hb]; exact ⟨hn, h⟩⟩
    · exact h.elim
  | extract t ix => simp only [opv] at h; obtain ⟨vs, hv, h⟩ := isTup_ex h; obtain ⟨v, hx, h⟩ := rd_ex h; exact ⟨_, h, fun K' h => by simp only [opv, hv, isTup, rd, hx]; exact h⟩
  | makeInterface t x => obtain ⟨u, hb, h⟩ := rd_ex h; exact ⟨_, h, fun K' h => by simp only [opv, rd, hb]; exact h⟩
  | makeFunc f a c => exact ⟨_, h, fun _ h => h⟩
  | convert s d x =>
    simp only [readsOp, Bool.and_eq_true] at hr
    simp only [opv] at h
    split at h
    · rename_i k k' hs hd; obtain ⟨k'', n, hx, h⟩ := isInt_ex h; exact ⟨_, h, fun K' h => by simp only [opv, hs, hd, hx, isInt]; exact h⟩
    · rename_i hn
      obtain ⟨hs, hd⟩ := hr
      unfold intK at hs hd
      split at hs
      · rename_i k hks
        split at hd
        · rename_i k' hkd; exact (hn _ _ hks hkd).elim
        · cases hd
      · cases hs
  | call c =>
    obtain ⟨cal, args, ts⟩ := c
    cases cal with
    | builtin b =>
      simp only [readsOp] at hr
      have hno := bShort_ok (vs := args.toList.map (ev N e)) hr (by simp)
      simp only [opv] at h
      split at h
      · rename_i x hb; obtain ⟨a, n, cp, hx, h⟩ := isSl_ex h; exact ⟨_, h, fun K' h => by simp only [opv, hb, hx]; exact h⟩
      · rename_i x hb; obtain ⟨s, hx, h⟩ := isStr_ex h; exact ⟨_, h, fun K' h => by simp only [opv, hb, hx]; exact h⟩
      · rename_i x y hb; obtain ⟨k, a, hx, h1⟩ := isInt_ex h; obtain ⟨k', a', hy, h2⟩ := isInt_ex h1; exact ⟨_, h2, fun K' h => by simp only [opv, hb, hx, hy]; exact h⟩
      · rename_i x y hb; obtain ⟨k, a, hx, h1⟩ := isInt_ex h; obtain ⟨k', a', hy, h2⟩ := isInt_ex h1; exact ⟨_, h2, fun K' h => by simp only [opv, hb, hx, hy]; exact h⟩
      · rename_i hb; exact (hno hb).elim
    | _ => simp [readsOp] at hr
  | _ => simp [readsOp] at hr

theorem gate_mono {v : Option (Nat × Bool)} {e : Env} {want : Bool} {K1 K2 K1' K2' : Env → Prop} (h1 : ∀ e, K1 e → K1' e) (h2 : ∀ e, K2 e → K2' e) (h : gate N v e want K1 K2) : gate N v e want K1' K2' := by
  unfold gate at h ⊢
  split at h
  · rename_i d g
    obtain ⟨v, hv, h⟩ := rd_ex h
    refine rd_of hv ?_
    rcases gateB_ex h with ⟨b, rfl, h3⟩ | ⟨vs, rfl, rfl, h3⟩
    · have h' : gsel want e d K1' K2' b := by
        unfold gsel at h3 ⊢
        cases want <;> cases b
        · exact h1 _ h3
        · exact h2 _ h3
        · exact h2 _ h3
        · exact h1 _ h3
      cases g <;> exact h'
    · exact h2 _ h3
  · exact h.elim
theorem takeC_of' {S : World → Prop} {all : List Oper} {o : Oper} {e : Env} {w : World} {K K' : Env → Prop} (hr : readsOp P o.op = true) (h : takeC P N S all o e w K) (hk : ∀ e', K e' → K' e') : takeC P N S all o e w K' := by
  have key : ∀ e, opv P N o.type e w (fun v _ => (∀ w', S w' → opv P N o.type e w' (fun v' w'' => v' = v ∧ w'' = w') o.op) ∧ typedO P o v fun v => K (put e o.dst v)) o.op →
      opv P N o.type e w (fun v _ => (∀ w', S w' → opv P N o.type e w' (fun v' w'' => v' = v ∧ w'' = w') o.op) ∧ typedO P o v fun v => K' (put e o.dst v)) o.op := by
    intro e h
    obtain ⟨v, hk', hall⟩ := opv_same hr h
    exact hall _ ⟨hk'.1, typedO_mono hk'.2 (hk _)⟩
  unfold takeC at h ⊢
  split at h
  · exact key _ h
  · exact gate_mono key (fun _ => hk _) h
theorem takeC_of {S : World → Prop} {all : List Oper} {o : Oper} {e : Env} {w : World} {K : Env → World → Prop} (hr : readsOp P o.op = true) (hS : ∀ w', S w' → w' = w) (h : opg P N all o e w K) : takeC P N S all o e w (fun e' => K e' w) := by
  have key : ∀ e, opv P N o.type e w (fun v w' => typedO P o v fun v => K (put e o.dst v) w') o.op → opv P N o.type e w (fun v _ => (∀ w', S w' → opv P N o.type e w' (fun v' w'' => v' = v ∧ w'' = w') o.op) ∧ typedO P o v fun v => K (put e o.dst v) w) o.op := by
    intro e h
    obtain ⟨v, hk, hall⟩ := opv_same hr h
    refine hall _ ⟨fun w' hw' => ?_, hk⟩
    obtain rfl := hS _ hw'
    exact hall _ ⟨rfl, rfl⟩
  unfold opg at h
  unfold takeC
  split at h
  · exact key _ h
  · exact gate_mono key (fun _ h => h) h
theorem ops_draw {l : List Oper} {w : World} (K : Env → World → Prop) (hr : ∀ o ∈ l, readsOp P o.op = true) : ∀ (r : List Oper) (i : Nat), l.drop i = r → ∀ e, ops P N l r K e w → drawC P N l (fun w' => w' = w) K (lexPlan r.length i) e w := by
  intro r
  induction r with
  | nil => intro i _ e h; exact h
  | cons o r ih =>
    intro i hi e h
    have ho : l[i]? = some o := by
      have : (l.drop i)[0]? = some o := by rw [hi]; rfl
      simpa using this
    simp only [List.length_cons, lexPlan, drawC, ho, rd]
    refine takeC_of' (hr o (List.mem_of_getElem? ho)) (takeC_of (hr o (List.mem_of_getElem? ho)) (fun _ h => h) h) ?_
    intro e' h'
    exact ih (i + 1) (by rw [← List.drop_drop, hi]; rfl) e' h'

theorem mem_dsts {l : List Oper} {o : Oper} (ho : o ∈ l) {d : Nat} (hd : o.dst = some d) : mem d (dsts l) = true := by
  induction l with
  | nil => cases ho
  | cons x l ih =>
    simp only [dsts]
    rcases List.mem_cons.1 ho with rfl | ho
    · rw [hd]; exact mem_ins (.inl rfl)
    · split
      · exact mem_ins (.inr (ih ho))
      · exact ih ho

theorem havoc_self {S : List Nat} {e e' : Env} (h : Fr S e e') : havoc S e' e = e' := by
  funext s
  simp only [havoc]
  cases hm : mem s S with
  | true => rfl
  | false => exact (h s hm).symm
theorem mem_of_mem {s : Nat} {l : List Nat} (h : s ∈ l) : mem s l = true := by
  induction l with
  | nil => cases h
  | cons x l ih =>
    simp only [mem]
    rcases List.mem_cons.1 h with rfl | h
    · simp [Nat.beq_refl]
    · cases Nat.beq s x <;> first | rfl | exact ih h
theorem code_sound (hm : P.follows .mixedOrders = true) (H : Hints) : ∀ (c : Code) (_ : ∀ s, mem s (writes c) = true → Nat.blt s N = true) (Q : Post) (e : Env) (w : World), (∀ ch e w, ¬ Q (.panic ch) e w) → (∀ e w, ¬ Q .outgrown e w) → code P H N c Q e w →
    c.wp P (lift N fun x e' w' => Fr (writes c) e e' ∧ Q x e' w') (act N e) w := by
  intro c
  induction c with
  | skip => intro _ Q e w _ _ h; exact wp_skip ⟨e, rfl, Fr.refl _ _, h⟩
  | region id l d =>
    intro hN Q e w hQ hO h
    simp only [code] at h
    split at h
    · have := ops_sound (P := P) (Q := lift N fun x e' w' => Fr (writes (.region id l false)) e e' ∧ Q x e' w') (dsts l.toList) e l.toList (fun e' w' => Q .normal e' w') e w (fun o ho d hd => mem_dsts ho hd) (Fr.refl _ _)
        (fun e' w' hf hq => ⟨e', rfl, hf, hq⟩) h
      exact wp_region_list (by simpa using this)
    · split at h
      · rename_i hok
        obtain ⟨hro, hok1, hok2⟩ : (∀ o ∈ l.toList, readsOp P o.op = true) ∧ (Region.noSelect l = true ∧ (lexPlan l.size 0).size ≤ l.size) ∧ planOk l (lexPlan l.size 0) (Array.replicate l.size false) = true := by
          simp only [planFit, Bool.and_eq_true, List.all_eq_true, decide_eq_true_eq] at hok
          exact ⟨hok.1, hok.2.1, hok.2.2⟩
        refine wp_region_held (S := fun w' => w' = w.drew) hm ?_
        have hdr := ops_draw (P := P) (l := l.toList) (w := w.drew) (fun e' w' => Q .normal e' w') hro l.toList 0 rfl e h
        have := drawC_sound (P := P) (l := l.toList) (Q := lift N fun x e' w' => Fr (writes (.region id l true)) e e' ∧ Q x e' w') (S := fun w' => w' = w.drew) (by rintro c a w ⟨e', _, _, hq⟩; exact hQ _ _ _ hq) (by simpa using hok1.1) (dsts l.toList) e
          (fun o ho d hd => mem_dsts ho hd) (K := fun e' w' => Q .normal e' w') (fun e' w' hf hq => ⟨e', rfl, hf, hq⟩) (lexPlan l.size 0) (Array.replicate l.size false) l.size e w.drew (by simpa using hok2) (Fr.refl _ _) rfl hok1.2 (by simpa using hdr)
        simpa using this
      · split at h
        · rename_i hok
          obtain ⟨S, hS, h⟩ := h
          obtain ⟨hok1, hok2⟩ : (Region.noSelect l = true ∧ (H.plan id).size ≤ l.size) ∧ planOk l (H.plan id) (Array.replicate l.size false) = true := by
            simpa [planFit, Bool.and_eq_true] using hok
          refine wp_region_held (S := S) hm ?_
          have := drawC_sound (P := P) (l := l.toList) (Q := lift N fun x e' w' => Fr (writes (.region id l true)) e e' ∧ Q x e' w') (S := S) (by rintro c a w ⟨e', _, _, hq⟩; exact hQ _ _ _ hq) (by simpa using hok1.1) (dsts l.toList) e
            (fun o ho d hd => mem_dsts ho hd) (K := fun e' w' => Q .normal e' w') (fun e' w' hf hq => ⟨e', rfl, hf, hq⟩) (H.plan id) (Array.replicate l.size false) l.size e w.drew (by simpa using hok2) (Fr.refl _ _) hS hok1.2 h
          simpa using this
        · exact h.elim
  | seq a b iha ihb =>
    intro hN Q e w hQ hO h
    simp only [code] at h
    refine wp_seq ?_
    split at h
    · obtain ⟨J, h1, h2⟩ := h
      refine wp_mono (iha (fun s hs => hN s (mem_uni (.inl hs))) _ e w (by intro ch e w; exact hQ ch e w) (by intro e w; exact hO e w) h1) ?_
      rintro x ac w' ⟨e', rfl, hf, hq⟩
      cases x with
      | normal =>
        simp only at hq
        have h3 := h2 e' w' (by rw [havoc_self hf]; exact hq)
        rw [havoc_self hf] at h3
        refine wp_mono (ihb (fun s hs => hN s (mem_uni (.inr hs))) Q e' w' hQ hO h3) ?_
        rintro x ac w'' ⟨e'', rfl, hf', hq⟩
        exact ⟨e'', rfl, (hf.mono fun s hs => mem_uni (.inl hs)).trans (hf'.mono fun s hs => mem_uni (.inr hs)), hq⟩
      | _ => exact ⟨e', rfl, hf.mono fun s hs => mem_uni (.inl hs), hq⟩
    · refine wp_mono (iha (fun s hs => hN s (mem_uni (.inl hs))) _ e w (by intro ch e w; exact hQ ch e w) (by intro e w; exact hO e w) h) ?_
      rintro x ac w' ⟨e', rfl, hf, hq⟩
      cases x with
      | normal =>
        refine wp_mono (ihb (fun s hs => hN s (mem_uni (.inr hs))) Q e' w' hQ hO hq) ?_
        rintro x ac w'' ⟨e'', rfl, hf', hq⟩
        exact ⟨e'', rfl, (hf.mono fun s hs => mem_uni (.inl hs)).trans (hf'.mono fun s hs => mem_uni (.inr hs)), hq⟩
      | _ => exact ⟨e', rfl, hf.mono fun s hs => mem_uni (.inl hs), hq⟩
  | cond c a b iha ihb =>
    intro hN Q e w hQ hO h
    obtain ⟨t, ht, hbr⟩ := isB_ex h
    obtain ⟨h1, h2⟩ := br_iff.1 hbr
    refine wp_cond_split (t := t) (by rw [act_eval]; exact ht) (fun h => ?_) (fun h => ?_)
    · have h1' := h1 h
      rw [putO_same (by rw [ht, h])] at h1'
      refine wp_mono (iha (fun s hs => hN s (mem_uni (.inl hs))) Q e w hQ hO h1') ?_
      rintro x ac w' ⟨e', rfl, hf, hq⟩
      exact ⟨e', rfl, hf.mono fun s hs => mem_uni (.inl hs), hq⟩
    · have h2' := h2 h
      rw [putO_same (by rw [ht, h])] at h2'
      refine wp_mono (ihb (fun s hs => hN s (mem_uni (.inr hs))) Q e w hQ hO h2') ?_
      rintro x ac w' ⟨e', rfl, hf, hq⟩
      exact ⟨e', rfl, hf.mono fun s hs => mem_uni (.inr hs), hq⟩
  | block id c ih =>
    intro hN Q e w hQ hO h
    refine wp_block (wp_mono (ih hN _ e w (by intro ch e w; exact hQ ch e w) (by intro e w; exact hO e w) h) ?_)
    rintro x ac w' ⟨e', rfl, hf, hq⟩
    cases x with
    | exit id' =>
      simp only [Exit.inBlock]
      simp only at hq
      split at hq
      · rename_i hid; rw [if_pos (Nat.eq_of_beq_eq_true hid)]; exact ⟨e', rfl, hf, hq⟩
      · rename_i hid; rw [if_neg (Nat.ne_of_beq_eq_false hid)]; exact ⟨e', rfl, hf, hq⟩
    | _ => exact ⟨e', rfl, hf, hq⟩
  | loop c ih =>
    intro hN Q e w hQ hO h
    obtain ⟨I, μ, h0, h1⟩ := h
    refine wp_loop (fun a w' => ∃ e', a = act N e' ∧ Fr (writes c) e e' ∧ I (alist (pairs (liveAt H c) e')) w') (fun a w' => μ (alist (pairs (liveAt H c) fun s => cond (mem s (writes c)) (a.tmps.getD s undef) (e s))) w') ⟨e, rfl, Fr.refl _ _, h0⟩ ?_
    have hp : ∀ e' : Env, Fr (writes c) e e' → (fun s => cond (mem s (writes c)) ((act N e').tmps.getD s undef) (e s)) = e' := by
      intro e' hf
      funext s
      cases hm : mem s (writes c) with
      | true => rw [act_getD, hN s hm]; rfl
      | false => exact (hf s hm).symm
    rintro a w' ⟨e', rfl, hf, hI⟩
    rw [hp e' hf]
    have h2 := h1 e' w' (by rw [havoc_self hf]; exact hI)
    rw [havoc_self hf] at h2
    refine wp_mono (ih hN _ e' w' (by intro ch e w; exact hQ ch e w) (by intro e w; exact hO e w) h2) ?_
    rintro x ac w'' ⟨e'', rfl, hf', hq⟩
    cases x with
    | normal => exact ⟨⟨e'', rfl, hf.trans hf', hq.1⟩, by rw [hp e'' (hf.trans hf')]; exact hq.2⟩
    | _ => exact ⟨e'', rfl, hf.trans hf', hq⟩
  | exit id => intro _ Q e w _ _ h; exact wp_exit ⟨e, rfl, Fr.refl _ _, h⟩
  | ret => intro _ Q e w _ _ h; exact wp_ret ⟨e, rfl, Fr.refl _ _, h⟩
  | rangeFunc f ps as bd _ _ => intro _ Q e w _ _ h; exact h.elim
  | scope b _ => intro _ Q e w _ _ h; exact h.elim
  | label l => intro _ Q e w _ _ h; exact h.elim
  | goto l => intro _ Q e w _ _ h; exact h.elim
  | refuse why => intro _ Q e w _ _ h; exact h.elim

theorem resV_run (rs : List ResultVar) (e : Env) (w : World) : ∀ (K : List Value → Prop), resV N rs e w P K → ∃ vs, (rs.mapM fun | .tmp t => pure ((act N e).tmps.getD t undef) | .cell a t => do loadVar t (← asAddr ((act N e).tmps.getD a undef)) : Sem (List Value)).run P w = .ok vs w ∧ K vs := by
  have hget : ∀ t, (act N e).tmps.getD t undef = (cond (Nat.blt t N) (e t) undef) := fun t => act_getD N e t
  induction rs with
  | nil => intro K h; exact ⟨[], by simp, h⟩
  | cons r rs ih =>
    intro K h
    cases r with
    | tmp t =>
      obtain ⟨vs, hvs, hK⟩ := ih _ h
      refine ⟨_, ?_, hK⟩
      simp only [hget] at hvs ⊢
      simp only [List.mapM_cons, Sem.run_bind, Sem.run_pure, Result.andThen_ok, hvs]
    | cell a t =>
      obtain ⟨ad, ha, h⟩ := isPtr_ex h
      obtain ⟨v, hv, h⟩ := loadC_run h
      obtain ⟨vs, hvs, hK⟩ := ih _ h
      refine ⟨_, ?_, hK⟩
      have hv' : (loadVar t ad).run P w = .ok v w := by simpa [Instr.loadAt, Instr.sureAddr] using hv
      simp only [hget] at hvs ⊢
      have hr : (asAddr (cond (Nat.blt a N) (e a) undef)).run P w = .ok ad w := by rw [ha]; rfl
      simp only [List.mapM_cons, Sem.run_bind, Sem.run_pure, Result.andThen_ok, hvs, hr, hv']

theorem mem_all {l : List Nat} {f : Nat → Bool} (h : ∀ s ∈ l, f s = true) : ∀ s, mem s l = true → f s = true := by
  induction l with
  | nil => intro s hs; cases hs
  | cons x l ih =>
    intro s hs
    simp only [mem] at hs
    cases hb : Nat.beq s x with
    | true => obtain rfl := Nat.eq_of_beq_eq_true hb; exact h _ (by simp)
    | false => rw [hb] at hs; exact ih (fun s hs => h s (by simp [hs])) s hs
/-- **The rule for a function.** -/
theorem fn_sound (hm : P.follows .mixedOrders = true) (H : Hints) {f : FuncId} {F : Func} (hf : P.funcs[f]? = some F) {args : List Value} {w : World} {R : Value → World → Prop} (h : fn P H F args w R) :
    Calls P f args.toArray w fun e w' => ∃ v, e = .returned v ∧ R v w' := by
  obtain ⟨c, hc, h⟩ := rd_ex h
  obtain ⟨_, hg, h⟩ := rd_ex h
  have hg' := gd_some hg
  simp only [Bool.and_eq_true, Nat.ble_eq, List.all_eq_true] at hg'
  refine calls_of_wp hf hc ?_
  have ha : ({ tmps := args.toArray ++ Array.replicate (F.ntmps - args.toArray.size) undef, defers := [] } : Act) = act F.ntmps (fun s => args.getD s undef) := by
    simp only [act, Act.mk.injEq, and_true]
    apply Array.ext'
    simp only [Array.toList_append, Array.toList_replicate, List.size_toArray]
    refine List.ext_getElem? fun i => ?_
    by_cases hi : i < args.length
    · rw [List.getElem?_append_left (by simpa using hi)]
      simp only [List.getElem?_map]
      rw [List.getElem?_range (by omega)]
      simp [List.getD_eq_getElem?_getD, hi]
    · rw [List.getElem?_append_right (by simpa using hi)]
      by_cases hn : i < F.ntmps
      · simp only [List.getElem?_map]
        rw [List.getElem?_range hn, List.getElem?_replicate]
        rw [if_pos (by first | omega | (have : args.toArray.toList.length = args.length := rfl; omega))]
        simp only [Option.map_some, List.getD_eq_getElem?_getD, List.getElem?_eq_none (show args.length ≤ i by omega), Option.getD_none]
      · rw [List.getElem?_eq_none (by simp; omega), List.getElem?_eq_none (by simp; omega)]
  rw [ha]
  refine wp_mono (code_sound hm H c (mem_all hg'.2) _ _ w (by intro ch e w h; exact h) (by intro e w h; exact h) h) ?_
  have fin : ∀ (e : Env) (w : World), resV F.ntmps F.results.toList e w P (fun vs => R (resK vs) w) → ∃ v, (results F (act F.ntmps e).tmps).run P w = .ok v w ∧ ∃ u, Ending.returned v = .returned u ∧ R u w := by
    intro e w h
    obtain ⟨vs, hvs, hK⟩ := resV_run _ _ _ _ h
    refine ⟨_, ?_, _, rfl, hK⟩
    unfold results
    rw [Array.mapM_eq_mapM_toList]
    simp only [Sem.run_bind, Sem.run_map]
    erw [hvs]
    simp only [Result.andThen_ok, Sem.run_pure]
    congr 1
    unfold resK
    match vs with
    | [] => rfl
    | [v] => rfl
    | a :: b :: r => simp
  rintro x ac w' ⟨e, rfl, _, hq⟩
  cases x with
  | normal => exact ⟨rfl, fin e w' hq⟩
  | ret => exact ⟨rfl, fin e w' hq⟩
  | _ => exact hq.elim
end
end Go.Proofs.Ytfdbojnikoonbaa.VC
namespace Go.Proofs.Ytfdbojnikoonbaa.VC
open Go Go.RowKit
theorem vc_of {P : Program} (hm : P.follows .mixedOrders = true) (H : Hints) {f : FuncId} {F : Func} (hf : P.funcs[f]? = some F) (he : Ent P f) {args : List Value} {w : World} {R : Value → World → Prop} {G : Prop}
    (hq : fn P H F args w R = G) (h : G) : callV P f args w R := ⟨he, fn_sound hm H hf (by rw [hq]; exact h)⟩
theorem callV.mono {P : Program} {f : FuncId} {args : List Value} {w : World} {R R' : Value → World → Prop} (h : callV P f args w R) (hr : ∀ v w', R v w' → R' v w') : callV P f args w R' :=
  ⟨h.1, h.2.mono fun _ _ ⟨v, e, r⟩ => ⟨v, e, hr _ _ r⟩⟩
theorem callV_of {P : Program} {f : FuncId} {args : List Value} {w : World} {R : Ending → World → Prop} {R' : Value → World → Prop} (he : Ent P f) (h : Calls P f args.toArray w R) (hr : ∀ e w', R e w' → ∃ v, e = .returned v ∧ R' v w') : callV P f args w R' :=
  ⟨he, h.mono hr⟩
def noHints : Hints := ⟨fun _ => false, fun _ => .done, fun _ => []⟩
end Go.Proofs.Ytfdbojnikoonbaa.VC
