/- What NetPlays needs, part 2 of 13: VCCode Tab C0.  Conditions: as each part says. -/
import Derived.OrdersHeld
import Derived.OrdersIn
import Derived.TacticsIn
import Derived.Test.YtipikchkbmgloaaGreatDoorRows
import Derived.Test.YtipikchkbmgloaaGreatDoorNetPlaysA1
namespace Go.Proofs.YtipikchkbmgloaaGreatDoor.VC
set_option linter.unusedSimpArgs false
set_option linter.unusedVariables false
open Go Go.RowKit
def gateB (g : Bool) (v : Value) (B : Bool → Prop) (U : Prop) : Prop :=
  match g with
  | false => isB v B
  | true => match v with
    | .bool b => B b
    | .tuple _ => U
    | _ => False
theorem gateB_ex {g : Bool} {v : Value} {B : Bool → Prop} {U : Prop} (h : gateB g v B U) : (∃ b, v = .bool b ∧ B b) ∨ (∃ vs, v = .tuple vs ∧ g = true ∧ U) := by
  unfold gateB at h
  split at h
  · exact .inl (isB_ex h)
  · split at h
    · exact .inl ⟨_, rfl, h⟩
    · exact .inr ⟨_, rfl, rfl, h⟩
    · exact h.elim
def gsel (want : Bool) (e : Env) (d : Nat) (K1 K2 : Env → Prop) (b : Bool) : Prop :=
  match want with
  | true => br b (K1 (put e (some d) (.bool true))) (K2 (put e (some d) (.bool false)))
  | false => br b (K2 (put e (some d) (.bool true))) (K1 (put e (some d) (.bool false)))
def gate (N : Nat) (s : Option (Nat × Bool)) (e : Env) (want : Bool) (K1 K2 : Env → Prop) : Prop :=
  match s with
  | some (d, g) => rd (cond (Nat.blt d N) (some (e d)) none) fun v => gateB g v (fun b => gsel want e d K1 K2 b) (K2 e)
  | none => False
def gslot (all : List Oper) (j : Nat) : Option (Nat × Bool) := (all[j]?).bind fun o => o.dst.map fun d => (d, o.guard.isSome)
def isK (k : IntKind) (v : Value) (K : Int → Prop) : Prop := match v with | .int k' i => (match ikEq k' k with | true => K i | false => False) | _ => False
def isP (v : Value) (K : Option Addr → Prop) : Prop := match v with | .pointer a => K a | _ => False
def typed (P : Program) (t : TypeId) (v : Value) (K : Value → Prop) : Prop :=
  match (row P t).k with
  | .bool => isB v fun b => K (.bool b)
  | .int k => isK k v fun i => K (.int k i)
  | .string => isStr v fun s => K (.string s)
  | .slice _ => isSl v fun a n c => K (.slice a n c)
  | .ptr _ => isP v fun a => K (.pointer a)
  | _ => K v
def typedO (P : Program) (o : Oper) (v : Value) (K : Value → Prop) : Prop :=
  match o.dst with
  | some _ => typed P o.type v K
  | none => K v
theorem typed_mono {P : Program} {t : TypeId} {v : Value} {K K' : Value → Prop} (h : typed P t v K) (hk : K v → K' v) : typed P t v K' := by
  unfold typed at h ⊢
  split
  · rename_i hr; rw [hr] at h; obtain ⟨b, rfl, h⟩ := isB_ex h; exact hk h
  · rename_i k hr
    rw [hr] at h
    cases v <;> simp only [isK] at h ⊢
    rename_i k' i
    split at h
    · rename_i he
      obtain rfl := ikEq_eq he
      exact hk h
    · exact h.elim
  · rename_i hr; rw [hr] at h; obtain ⟨b, rfl, h⟩ := isStr_ex h; exact hk h
  · rename_i hr; rw [hr] at h; obtain ⟨a, n, c, rfl, h⟩ := isSl_ex h; exact hk h
  · rename_i hr
    rw [hr] at h
    cases v <;> simp only [isP] at h ⊢
    exact hk h
  · rename_i h1 h2 h3 h4 h5
    split at h
    · rename_i hr; exact absurd hr h1
    · rename_i hr; exact absurd hr (h2 _)
    · rename_i hr; exact absurd hr h3
    · rename_i hr; exact absurd hr (h4 _)
    · rename_i hr; exact absurd hr (h5 _)
    · exact hk h
theorem typedO_mono {P : Program} {o : Oper} {v : Value} {K K' : Value → Prop} (h : typedO P o v K) (hk : K v → K' v) : typedO P o v K' := by
  unfold typedO at h ⊢
  split
  · rename_i hd; rw [hd] at h; exact typed_mono h hk
  · rename_i hd; rw [hd] at h; exact hk h
theorem typed_elim {P : Program} {t : TypeId} {v : Value} {K : Value → Prop} (h : typed P t v K) : K v := by
  unfold typed at h
  split at h
  · obtain ⟨b, rfl, h⟩ := isB_ex h; exact h
  · cases v <;> simp only [isK] at h
    rename_i k' i
    split at h
    · rename_i he
      obtain rfl := ikEq_eq he
      exact h
    · exact h.elim
  · obtain ⟨b, rfl, h⟩ := isStr_ex h; exact h
  · obtain ⟨a, n, c, rfl, h⟩ := isSl_ex h; exact h
  · cases v <;> simp only [isP] at h
    exact h
  · exact h
theorem typedO_elim {P : Program} {o : Oper} {v : Value} {K : Value → Prop} (h : typedO P o v K) : K v := by
  unfold typedO at h
  split at h
  · exact typed_elim h
  · exact h
def opg (P : Program) (N : Nat) (all : List Oper) (o : Oper) (e : Env) (w : World) (K : Env → World → Prop) : Prop :=
  match o.guard with
  | none => opv P N o.type e w (fun v w' => typedO P o v fun v => K (put e o.dst v) w') o.op
  | some (j, want) => gate N (gslot all j) e want (fun e => opv P N o.type e w (fun v w' => typedO P o v fun v => K (put e o.dst v) w') o.op) (fun e => K (put e o.dst undef) w)
def opgY (P : Program) (N : Nat) (all : List Oper) (o : Oper) (e : Env) (w : World) (K : Env → World → Prop) : Prop :=
  match o.guard with
  | none => opvY P N o.type e w (fun v w' => typedO P o v fun v => K (put e o.dst v) w') o.op
  | some (j, want) => gate N (gslot all j) e want (fun e => opvY P N o.type e w (fun v w' => typedO P o v fun v => K (put e o.dst v) w') o.op) (fun e => K (put e o.dst undef) w)
def ops (P : Program) (N : Nat) (all : List Oper) : List Oper → (Env → World → Prop) → Env → World → Prop
  | [], K, e, w => K e w
  | o :: rest, K, e, w => opgY P N all o e w (fun e' w' => ops P N all rest K e' w')
inductive Plan where
  | done
  | take (i : Nat) (p : Plan)
  | one (i : Nat) (p : Plan)
  | two (i : Nat) (p : Plan) (j : Nat) (q : Plan)
  | last (i : Nat) (p : Plan)
def Plan.size : Plan → Nat
  | .done => 0
  | .take _ p => p.size + 1
  | .one _ p => p.size + 1
  | .two _ p _ q => max p.size q.size + 1
  | .last _ p => p.size + 1
def Plan.tail : Plan → Bool
  | .done => true
  | .last _ p => p.tail
  | _ => false
def reachB (ops : Array Oper) : Nat → Nat → Nat → Bool
  | 0, _, _ => false
  | f + 1, j, k => match ops[j]? with
    | some o => o.after.toList.any (fun e => Region.binds .any e && e.on == k) || o.after.toList.any (fun e => Region.binds .any e && reachB ops f e.on k)
    | none => false
def tlB (ops : Array Oper) (L : Array Bool) (i : Nat) : Bool := (List.range L.size).all fun k => !(L.getD k false) || reachB ops 4 i k
def planOk (l : Array Oper) : Plan → Array Bool → Bool
  | .done, s => (Region.ready .any l s).isEmpty
  | .take i p, s => Region.free .any l s i && (Region.ready .any l s).contains i && decide (i < l.size) && (match l[i]? with | some o => quietOp o.op | none => false) && planOk l p (s.setIfInBounds i true)
  | .one i p, s => Region.ready .any l s == [i] && decide (i < l.size) && planOk l p (s.setIfInBounds i true)
  | .two i p j q, s => Region.ready .any l s == [i, j] && decide (i < l.size) && decide (j < l.size) && planOk l p (s.setIfInBounds i true) && planOk l q (s.setIfInBounds j true)
  | .last i p, s => Region.ready .any l s == [i] && decide (i < l.size) && tlB l s i && p.tail && planOk l p (s.setIfInBounds i true)
def planFit (l : Array Oper) (p : Plan) : Bool := (Region.noSelect l && decide (p.size ≤ l.size)) && planOk l p (Array.replicate l.size false)
def lexPlan : Nat → Nat → Plan
  | 0, _ => .done
  | n + 1, i => .take i (lexPlan n (i + 1))
def shortOk (P : Program) (b : Builtin) (ts : List TypeId) (n : Nat) : Bool :=
  match b, ts, n with
  | .len, [t], 1 => match (row P t).k with | .slice _ => true | .string => true | _ => false
  | .max, [t, _], 2 => match (row P t).k with | .int _ => true | _ => false
  | .min, [t, _], 2 => match (row P t).k with | .int _ => true | _ => false
  | _, _, _ => false
def intK : K → Bool
  | .int _ => true
  | _ => false
def readsOp (P : Program) : Op → Bool
  | .move _ | .assign _ | .pick .. | .load .. | .nilCheck _ | .binOp .. | .unOp .. | .fieldAddr .. | .field .. | .indexAddr .. | .extract .. | .makeInterface .. | .makeFunc .. => true
  | .convert s d _ => intK (row P s).k && intK (row P d).k
  | .call { callee := .builtin b, args, argTypes } => shortOk P b argTypes.toList args.toList.length
  | _ => false
def takeC (P : Program) (N : Nat) (S : World → Prop) (all : List Oper) (o : Oper) (e : Env) (w : World) (K : Env → Prop) : Prop :=
  match o.guard with
  | none => opv P N o.type e w (fun v _ => (∀ w', S w' → opv P N o.type e w' (fun v' w'' => v' = v ∧ w'' = w') o.op) ∧ typedO P o v fun v => K (put e o.dst v)) o.op
  | some (j, want) => gate N (gslot all j) e want (fun e => opv P N o.type e w (fun v _ => (∀ w', S w' → opv P N o.type e w' (fun v' w'' => v' = v ∧ w'' = w') o.op) ∧ typedO P o v fun v => K (put e o.dst v)) o.op) (fun e => K (put e o.dst undef))
def drawC (P : Program) (N : Nat) (l : List Oper) (S : World → Prop) (K : Env → World → Prop) : Plan → Env → World → Prop
  | .done, e, w => K e w
  | .take i p, e, w => rd l[i]? fun o => takeC P N S l o e w fun e' => drawC P N l S K p e' w
  | .one i p, e, w => rd l[i]? fun o => opg P N l o e w fun e' w' => S w' ∧ drawC P N l S K p e' w'
  | .two i p j q, e, w => (rd l[i]? fun o => opg P N l o e w fun e' w' => S w' ∧ drawC P N l S K p e' w') ∧ (rd l[j]? fun o => opg P N l o e w fun e' w' => S w' ∧ drawC P N l S K q e' w')
  | .last i p, e, w => rd l[i]? fun o => opg P N l o e w fun e' w' => drawC P N l S K p e' w'
def headId : Code → Option Nat
  | .region id _ _ => some id
  | .seq a _ => headId a
  | .block _ a => headId a
  | .loop a => headId a
  | _ => none
def dsts : List Oper → List Nat
  | [] => []
  | o :: l => match o.dst with
    | some d => ins d (dsts l)
    | none => dsts l
def writes : Code → List Nat
  | .region _ l _ => dsts l.toList
  | .seq a b => uni (writes a) (writes b)
  | .cond _ a b => uni (writes a) (writes b)
  | .block _ a => writes a
  | .loop a => writes a
  | .rangeFunc .. => [dSlot]
  | _ => []
def wOk (N : Nat) : Code → Bool
  | .region _ l _ => l.toList.all fun o => match o.dst with | some d => Nat.blt d N | none => true
  | .seq a b => wOk N a && wOk N b
  | .cond _ a b => wOk N a && wOk N b
  | .block _ a => wOk N a
  | .loop a => wOk N a
  | .rangeFunc _ ps asg bd => (ps.toList.all fun d => Nat.blt d N) && (wOk N asg && wOk N bd)
  | _ => true
def noRange : Code → Bool
  | .seq a b => noRange a && noRange b
  | .cond _ a b => noRange a && noRange b
  | .block _ a => noRange a
  | .loop a => noRange a
  | .rangeFunc .. => false
  | _ => true
def exitsOf : Code → List Nat
  | .seq a b => uni (exitsOf a) (exitsOf b)
  | .cond _ a b => uni (exitsOf a) (exitsOf b)
  | .block _ a => exitsOf a
  | .loop a => exitsOf a
  | .exit id => [id]
  | _ => []
abbrev Post := Exit → Env → World → Prop
structure Hints where
  cut : Nat → Bool
  plan : Nat → Plan
  live : Nat → List Nat
def liveAt (H : Hints) (b : Code) : List Nat :=
  match headId b with
  | some i => H.live i
  | none => writes b
def cutAt (H : Hints) (b : Code) : Bool :=
  match headId b with
  | some i => H.cut i
  | none => false
def putO (e : Env) (c : Operand) (t : Bool) : Env := match c with | .tmp d => put e (some d) (.bool t) | _ => e
def asgL (N : Nat) : List Oper → Env → Option Env
  | [], e => some e
  | o :: l, e => match o.guard, o.op, o.dst with
    | none, .move x, some d => asgL N l (put e (some d) (ev N e x))
    | none, .assign x, some d => asgL N l (put e (some d) (ev N e x))
    | _, _, _ => none
def asgE (N : Nat) : Code → Env → Option Env
  | .skip, e => some e
  | .region _ l false, e => asgL N l.toList e
  | .seq a b, e => match asgE N a e with | some e' => asgE N b e' | none => none
  | _, _ => none
def putP : List Nat → Nat → (Nat → Value) → Env → Env
  | [], _, _, e => e
  | p :: ps, j, enc, e => putP ps (j + 1) enc (put e (some p) (enc j))
def rangeC (P : Program) (g : Nat) (lb : List Value) (np : Nat) (w : World) (body : (Nat → Value) → World → (Exit → World → Prop) → Prop) (after ret : Nat → World → Prop) (exits : List (Nat × (Nat → World → Prop))) : Prop :=
  Ent P g ∧ ∃ (α : Type) (enc : α → Nat → Value) (Kp : World → World → Prop) (S Sp : List α → Prop) (M : Nat) (I : List α → World → Prop) (Ix : Exit → List α → World → Prop),
    SeqStopsK Fence.wide 0 P g lb.toArray (fun x => ((List.range np).map (enc x)).toArray) Kp S Sp M w ∧
    (∀ A B C, Kp A B → Kp B C → Kp A C) ∧ (∀ (W : World) (l : Nat) (o o' : Obj), w.heap.size ≤ l → W.heap[l]? = some o → o.isCells = false → o.isWalk = false → Kp W (W.putObj l o')) ∧
    OwnFrom w.heap.size I ∧ (∀ c, OwnFrom w.heap.size (Ix c)) ∧ I [] w ∧
    (∀ pre x W, I pre W → pre.length < M → body (enc x) W fun c W' => KeepsFrom w.heap.size W W' ∧ match c with | .normal => Kp W W' ∧ I (pre ++ [x]) W' | .ret => Ix .ret (pre ++ [x]) W' | .exit id => (exits.any fun y => Nat.beq y.1 id) = true ∧ Ix (.exit id) (pre ++ [x]) W' | _ => False) ∧
    (∀ D ys W, w.heap.size ≤ D → S ys → I ys W → W.heap[D]? = some (.deferred (some [])) → after D W) ∧
    (∀ D pre W, w.heap.size ≤ D → Sp pre → Ix .ret pre W → W.heap[D]? = some (.deferred (some [])) → ret D W) ∧
    (∀ y ∈ exits, ∀ D pre W, w.heap.size ≤ D → Sp pre → Ix (.exit y.1) pre W → W.heap[D]? = some (.deferred (some [])) → y.2 D W)
def rangeB (P : Program) (g : Nat) (lb : List Value) (np : Nat) (w : World) (asg : (Nat → Value) → World → ((Nat → Value) → World → Prop) → Prop) (body : (Nat → Value) → ((Nat → Value) → World → Prop) → World → (Exit → World → Prop) → Prop) (after ret : Nat → World → Prop) (exits : List (Nat × (Nat → World → Prop))) : Prop :=
  Ent P g ∧ ∃ (α : Type) (enc : α → Nat → Value) (Kp : World → World → Prop) (S Sp : List α → Prop) (M : Nat) (I : List α → World → Prop) (Ix : Exit → List α → World → Prop) (A : α → (Nat → Value) → World → Prop),
    SeqStopsK Fence.wide 0 P g lb.toArray (fun x => ((List.range np).map (enc x)).toArray) Kp S Sp M w ∧
    (∀ A B C, Kp A B → Kp B C → Kp A C) ∧ (∀ (W : World) (l : Nat) (o o' : Obj), w.heap.size ≤ l → W.heap[l]? = some o → o.isCells = false → o.isWalk = false → Kp W (W.putObj l o')) ∧
    OwnFrom w.heap.size I ∧ (∀ c, OwnFrom w.heap.size (Ix c)) ∧ (∀ x f, OwnFrom w.heap.size (fun (_ : Unit) W => A x f W)) ∧ I [] w ∧
    (∀ pre x W, I pre W → asg (enc x) W fun f W' => KeepsFrom w.heap.size W W' ∧ Kp W W' ∧ I pre W' ∧ A x f W') ∧
    (∀ pre x W, I pre W → pre.length < M → body (enc x) (A x) W fun c W' => KeepsFrom w.heap.size W W' ∧ match c with | .normal => Kp W W' ∧ I (pre ++ [x]) W' | .ret => Ix .ret (pre ++ [x]) W' | .exit id => (exits.any fun y => Nat.beq y.1 id) = true ∧ Ix (.exit id) (pre ++ [x]) W' | _ => False) ∧
    (∀ D ys W, w.heap.size ≤ D → S ys → I ys W → W.heap[D]? = some (.deferred (some [])) → after D W) ∧
    (∀ D pre W, w.heap.size ≤ D → Sp pre → Ix .ret pre W → W.heap[D]? = some (.deferred (some [])) → ret D W) ∧
    (∀ y ∈ exits, ∀ D pre W, w.heap.size ≤ D → Sp pre → Ix (.exit y.1) pre W → W.heap[D]? = some (.deferred (some [])) → y.2 D W)
def noDef (l : Array Oper) : Bool := l.toList.all fun o => !isDefer o.op
def code (P : Program) (H : Hints) (N : Nat) : Code → Post → Env → World → Prop
  | .skip, Q, e, w => Q .normal e w
  | .region id l d, Q, e, w => match d with
    | false => ops P N l.toList l.toList (fun e' w' => Q .normal e' w') e w
    | true => match (noDef l && l.toList.all fun o => readsOp P o.op) && planFit l (lexPlan l.size 0) with
      | true => ops P N l.toList l.toList (fun e' w' => Q .normal e' w') e w.drew
      | false => match noDef l && planFit l (H.plan id) with
        | true => heldC w.drew fun S => drawC P N l.toList S (fun e' w' => Q .normal e' w') (H.plan id) e w.drew
        | false => False
  | .seq a b, Q, e, w =>
    match cutAt H b with
    | true => cutC (fun J => code P H N a (fun x e' w' => match x with | .normal => J (alist (pairs (liveAt H b) e')) w' | x => Q x e' w') e w) fun J => ∀ (u : Nat → Value) (w' : World), J (alist (pairs (liveAt H b) (havoc (writes a) u e))) w' → code P H N b Q (havoc (writes a) u e) w'
    | false => code P H N a (fun x e' w' => match x with | .normal => code P H N b Q e' w' | x => Q x e' w') e w
  | .cond c a b, Q, e, w => isB (ev N e c) fun t => br t (code P H N a Q (putO e c true) w) (code P H N b Q (putO e c false) w)
  | .block id c, Q, e, w => code P H N c (fun x e' w' => match x with | .exit id' => (match Nat.beq id' id with | true => Q .normal e' w' | false => Q (.exit id') e' w') | x => Q x e' w') e w
  | .loop c, Q, e, w => loopC (alist (pairs (liveAt H c) e)) w fun I μ => ∀ (u : Nat → Value) (w' : World), I (alist (pairs (liveAt H c) (havoc (writes c) u e))) w' →
      code P H N c (fun x e'' w'' => match x with | .normal => again I μ (alist (pairs (liveAt H c) e'')) w'' (alist (pairs (liveAt H c) (havoc (writes c) u e))) w' | x => Q x e'' w'') (havoc (writes c) u e) w'
  | .exit id, Q, e, w => Q (.exit id) e w
  | .ret, Q, e, w => Q .ret e w
  | .rangeFunc f ps asg bd, Q, e, w => isFn (ev N e f) fun fn first captured => rd (gd (first.isEmpty && noRange bd)) fun _ => rd (fnId fn) fun g =>
    match (asgE N asg fun _ => undef).isSome with
    | true => rangeC P g captured ps.size w (fun enc W post => rd (asgE N asg (putP ps.toList 0 enc (put e (some dSlot) undef))) fun e1 => code P H N bd (fun x _ W' => post x W') e1 W)
        (fun D W => Q .normal (put e (some dSlot) (pushD D (e dSlot))) W) (fun D W => Q .ret (put e (some dSlot) (pushD D (e dSlot))) W)
        ((exitsOf bd).map fun id => (id, fun D W => Q (.exit id) (put e (some dSlot) (pushD D (e dSlot))) W))
    | false => rd (gd (noRange asg)) fun _ => rangeB P g captured ps.size w
        (fun enc W J => code P H N asg (fun x e1 W1 => match x with | .normal => J (alist (pairs (liveAt H bd) e1)) W1 | _ => False) (putP ps.toList 0 enc (put e (some dSlot) undef)) W)
        (fun enc A W post => ∀ (u : Nat → Value), A (alist (pairs (liveAt H bd) (havoc (writes asg) u (putP ps.toList 0 enc (put e (some dSlot) undef))))) W → code P H N bd (fun x _ W' => post x W') (havoc (writes asg) u (putP ps.toList 0 enc (put e (some dSlot) undef))) W)
        (fun D W => Q .normal (put e (some dSlot) (pushD D (e dSlot))) W) (fun D W => Q .ret (put e (some dSlot) (pushD D (e dSlot))) W)
        ((exitsOf bd).map fun id => (id, fun D W => Q (.exit id) (put e (some dSlot) (pushD D (e dSlot))) W))
  | _, _, _, _ => False
def turnD : List Nat → World → World
  | [], w => w
  | D :: ds, w => turnD ds (w.putObj D (.deferred none))
def leaveC (v : Value) (w : World) (K : World → Prop) : Prop :=
  match dfOf v with
  | [] => K w
  | D :: ds => (∀ d ∈ D :: ds, w.heap[d]? = some (.deferred (some []))) ∧ (D :: ds).Nodup ∧ K (turnD (D :: ds) w)
def resV (N : Nat) (rs : List ResultVar) (e : Env) (w : World) (P : Program) (K : List Value → Prop) : Prop :=
  match rs with
  | [] => K []
  | .tmp t :: rs => resV N rs e w P fun vs => K ((cond (Nat.blt t N) (e t) undef) :: vs)
  | .cell a t :: rs => isPtr (cond (Nat.blt a N) (e a) undef) fun ad => loadC P w t ad fun v => resV N rs e w P fun vs => K (v :: vs)
def resK (vs : List Value) : Value := match vs with | [v] => v | vs => .tuple vs.toArray
def fn (P : Program) (H : Hints) (f : Func) (args : List Value) (w : World) (R : Value → World → Prop) : Prop :=
  rd f.body fun c => rd (gd ((Nat.ble args.length f.ntmps && Nat.ble f.ntmps dSlot) && wOk f.ntmps c)) fun _ => code P H f.ntmps c (fun x e w' => match x with
    | .normal => leaveC (e dSlot) w' fun w' => resV f.ntmps f.results.toList e w' P fun vs => R (resK vs) w'
    | .ret => leaveC (e dSlot) w' fun w' => resV f.ntmps f.results.toList e w' P fun vs => R (resK vs) w'
    | _ => False) (fun s => args.getD s undef) w
section
variable {P : Program} {N : Nat}
def okD (e : Env) : Prop := ∃ ds, e dSlot = encD ds
def lift (N : Nat) (Q : Post) : Exit → Act → World → Prop := fun x a w => ∃ e, a = act N e ∧ okD e ∧ Q x e w
theorem wanted_none {o : Oper} (h : o.guard = none) (y : Nat → Option Bool) : Region.wanted o y = true := by simp [Region.wanted, h]
def boolOf (v : Value) : Option Bool := match v with | .bool b => some b | _ => none
theorem put_same {e : Env} {d : Nat} {v : Value} (h : e d = v) : put e (some d) v = e := by
  funext s
  simp only [put]
  cases hb : Nat.beq s d with
  | false => rfl
  | true => obtain rfl := Nat.eq_of_beq_eq_true hb; exact h.symm
theorem putO_same {e : Env} {c : Operand} {t : Bool} (h : ev N e c = .bool t) : putO e c t = e := by
  cases c with
  | tmp d =>
    refine put_same ?_
    simp only [ev] at h
    cases hd : Nat.blt d N with
    | false => rw [hd] at h; simp [undef] at h
    | true => rw [hd] at h; exact h
  | _ => rfl
theorem gate_elim {all : List Oper} {e : Env} {o : Oper} {j : Nat} {want : Bool} {K1 K2 : Env → Prop} (hg : o.guard = some (j, want)) (h : gate N (gslot all j) e want K1 K2) :
    (Region.wanted o (yielded all.toArray (act N e).tmps) = true ∧ K1 e) ∨ (Region.wanted o (yielded all.toArray (act N e).tmps) = false ∧ K2 e) := by
  unfold gate at h
  split at h
  · rename_i d g hs
    obtain ⟨v, hv, h⟩ := rd_ex h
    have hy : yielded all.toArray (act N e).tmps j = boolOf v := by
      unfold gslot at hs
      simp only [Option.bind_eq_some_iff, Option.map_eq_some_iff, Prod.mk.injEq] at hs
      obtain ⟨oj, hoj, d', hd', rfl, _⟩ := hs
      unfold yielded
      simp only [List.getElem?_toArray, hoj, Option.bind_some, hd']
      rw [act_get, hv]
      cases v <;> rfl
    have he : e d = v := by
      cases hb : Nat.blt d N with
      | true => rw [hb] at hv; simpa using hv
      | false => rw [hb] at hv; cases hv
    have hw : Region.wanted o (yielded all.toArray (act N e).tmps) = (boolOf v == some want) := by
      unfold Region.wanted
      rw [hg]
      simp only
      rw [hy]
    rw [hw]
    rcases gateB_ex h with ⟨b, rfl, h3⟩ | ⟨vs, rfl, _, h3⟩
    · cases want <;> cases b <;> simp only [gsel, br] at h3
      all_goals (rw [put_same he] at h3; first | exact .inl ⟨rfl, h3⟩ | exact .inr ⟨rfl, h3⟩)
    · exact .inr ⟨by cases want <;> rfl, h3⟩
  · exact h.elim
theorem opg_wpOp {all : List Oper} {o : Oper} {i : Nat} (hi : all[i]? = some o) {e : Env} {w : World} {K : Env → World → Prop} {next : Act → World → Prop} {Q : Exit → Act → World → Prop}
    (hd : o.dst ≠ some dSlot) (hK : ∀ v w', K (put e o.dst v) w' → next (act N (put e o.dst v)) w') (h : opg P N all o e w K) : wpOp P all.toArray Q i next (act N e) w := by
  unfold wpOp
  have hi' : all.toArray[i]? = some o := by simpa using hi
  simp only [hi']
  unfold opg at h
  split at h
  · rename_i hg
    rw [if_pos (wanted_none hg _)]
    exact .inl (opv_sound hd (fun v w' ht => hK v w' (typedO_elim ht)) h)
  · rename_i j want hg
    rcases gate_elim hg h with ⟨hw, h⟩ | ⟨hw, h⟩
    · rw [if_pos hw]; exact .inl (opv_sound hd (fun v w' ht => hK v w' (typedO_elim ht)) h)
    · rw [if_neg (by simp [hw]), act_put _ _ _ _ hd]; exact hK _ _ h
theorem ops_sound {r : Option Nat} {n : Nat} {all : List Oper} {Q : Exit → Act → World → Prop} (S : List Nat) (e0 : Env) : ∀ (l : List Oper) (K : Env → World → Prop) (e : Env) (w : World), (∀ o ∈ l, ∀ d, o.dst = some d → mem d S = true) → (∀ o ∈ l, o.dst ≠ some dSlot) → Fr S e0 e →
    (∀ e' w', Fr S e0 e' → K e' w' → Q .normal (act N e') w') → ops P N all l K e w → wpListIn (fen r) n P all.toArray Q l (act N e) w := by
  intro l
  induction l with
  | nil => intro K e w _ _ hf hK h; exact hK e w hf h
  | cons o l ih =>
    intro K e w hd hs hf hK h
    simp only [ops] at h
    have ho := hs o (by simp)
    have next : ∀ v w', ops P N all l K (put e o.dst v) w' → wpListIn (fen r) n P all.toArray Q l (act N (put e o.dst v)) w' := fun v w' h' =>
      ih K _ w' (fun o' ho' => hd o' (by simp [ho'])) (fun o' ho' => hs o' (by simp [ho'])) (hf.put _ _ (fun d e => hd o (by simp) d e)) hK h'
    unfold opgY at h
    unfold wpListIn
    split at h
    · rename_i hg
      rw [if_pos (wanted_none hg _)]
      exact opvY_sound ho (fun v w' ht => next v w' (typedO_elim ht)) h
    · rename_i j want hg
      rcases gate_elim hg h with ⟨hw, h⟩ | ⟨hw, h⟩
      · rw [if_pos hw]; exact opvY_sound ho (fun v w' ht => next v w' (typedO_elim ht)) h
      · rw [if_neg (by simp [hw]), act_put _ _ _ _ ho]; exact ⟨fun _ _ => trivial, next _ _ h⟩
theorem any_in {r : Option Nat} {n : Nat} {md : Region.Mode} {opsA : Array Oper} {Q : Exit → Act → World → Prop} (hO : ∀ a w, ¬ Q .outgrown a w) (hd : ∀ (i : Nat) (o : Oper), opsA[i]? = some o → isDefer o.op = false) :
    ∀ (fuel : Nat) (listed : Array Bool) (a : Act) (w : World), wpAny P md opsA Q fuel listed a w → wpAnyIn (fen r) n P md opsA Q fuel listed a w := by
  intro fuel
  induction fuel with
  | zero => intro listed a w h; exact h
  | succ fuel ih =>
    intro listed a w h
    refine ⟨h.1, fun i hi => ?_⟩
    have h2 := h.2 i hi
    unfold wpOp at h2
    unfold wpOpIn
    cases ho : opsA[i]? with
    | none =>
      rw [ho] at h2
      exact ih _ _ _ h2
    | some o =>
      rw [ho] at h2
      simp only at h2 ⊢
      split at h2
      · rename_i hw
        rw [if_pos hw]
        rcases h2 with h2 | ⟨_, a', w', hx⟩
        · exact Oper.wpIn_mono (fun a w h => ih _ a w h) (oper_in (isDefer_of (hd i o ho)) h2)
        · exact absurd hx (hO _ _)
      · rename_i hw
        rw [if_neg hw]
        exact ⟨fun _ _ => trivial, ih _ _ _ h2⟩
theorem takeC_elim {S : World → Prop} {all : List Oper} {o : Oper} {e : Env} {w : World} {K : Env → Prop} (hq : quietOp o.op = true) (h : takeC P N S all o e w K) : ∃ v, YieldsIf P all.toArray S o v (act N e) ∧ K (put e o.dst v) := by
  have key : opv P N o.type e w (fun v _ => (∀ w', S w' → opv P N o.type e w' (fun v' w'' => v' = v ∧ w'' = w') o.op) ∧ typedO P o v fun v => K (put e o.dst v)) o.op →
      ∃ v, (∀ w', S w' → (execOp (act N e).eval o).run P w' = .ok (.value v) w') ∧ K (put e o.dst v) := by
    intro h
    obtain ⟨v, w1, _, h2, hK⟩ := opv_value hq h
    refine ⟨v, fun w' hw' => ?_, typedO_elim hK⟩
    obtain ⟨v', w'', hr, rfl, rfl⟩ := opv_value hq (h2 w' hw')
    rw [act_eval]
    exact hr
  unfold takeC at h
  split at h
  · rename_i hg
    obtain ⟨v, hv, hK⟩ := key h
    exact ⟨v, .inl ⟨wanted_none hg _, hv⟩, hK⟩
  · rename_i j want hg
    rcases gate_elim hg h with ⟨hw, h⟩ | ⟨hw, h⟩
    · obtain ⟨v, hv, hK⟩ := key h
      exact ⟨v, .inl ⟨hw, hv⟩, hK⟩
    · exact ⟨undef, .inr ⟨hw, rfl⟩, h⟩
def wpAnyT (P : Program) (ops : Array Oper) (Q : Exit → Act → World → Prop) (S : World → Prop) : Nat → Array Bool → Act → World → Prop
  | 0, listed, a, w => Region.ready .any ops listed = [] ∧ Q .normal a w
  | fuel + 1, listed, a, w =>
    (Region.ready .any ops listed = [] → Q .normal a w) ∧
    ∀ i ∈ Region.ready .any ops listed, wpOp P ops Q i (fun a' w' => (tlB ops listed i = true ∨ S w') ∧ wpAnyT P ops Q S fuel (listed.setIfInBounds i true) a' w') a w
theorem wpAny_of_T {ops : Array Oper} {Q : Exit → Act → World → Prop} {S : World → Prop} : ∀ (fuel : Nat) (listed : Array Bool) (a : Act) (w : World), wpAnyT P ops Q S fuel listed a w → wpAny P .any ops Q fuel listed a w
  | 0, _, _, _, h => h
  | fuel + 1, _, _, _, h => ⟨h.1, fun i hi => wpOp_mono (fun a' w' h' => wpAny_of_T fuel _ a' w' h'.2) (h.2 i hi)⟩
def Closed (ops : Array Oper) (L : Array Bool) : Prop := ∀ m o, ops[m]? = some o → (m < L.size → L.getD m true = true) → m < L.size → ∀ e ∈ o.after, Region.binds .any e = true → L.getD e.on false = true
theorem reach_listed {ops : Array Oper} {L : Array Bool} (hc : Closed ops L) {k : Nat} : ∀ (f j : Nat), (∀ o, ops[j]? = some o → ∀ e ∈ o.after, Region.binds .any e = true → L.getD e.on false = true) → reachB ops f j k = true → L.getD k false = true := by
  intro f
  induction f with
  | zero => intro j _ h; cases h
  | succ f ih =>
    intro j hj h
    unfold reachB at h
    split at h
    · rename_i o ho
      rw [Bool.or_eq_true] at h
      rcases h with h | h
      · obtain ⟨e, he, hb⟩ := List.any_eq_true.1 h
        simp only [Bool.and_eq_true, beq_iff_eq] at hb
        have := hj o ho e (by simpa using he) hb.1
        rw [hb.2] at this; exact this
      · obtain ⟨e, he, hb⟩ := List.any_eq_true.1 h
        simp only [Bool.and_eq_true] at hb
        have h1 := hj o ho e (by simpa using he) hb.1
        have hlt : e.on < L.size := by
          rcases Nat.lt_or_ge e.on L.size with h' | h'
          · exact h'
          · simp [Array.getElem?_eq_none h'] at h1
        refine ih e.on (fun o' ho' => hc e.on o' ho' (fun _ => ?_) hlt) hb.2
        simp [hlt] at h1 ⊢; exact h1
    · cases h
theorem closed_start (ops : Array Oper) (n : Nat) : Closed ops (Array.replicate n false) := by
  intro m o _ h1 h2
  have := h1 h2
  simp at h2
  simp [h2] at this
theorem closed_add {ops : Array Oper} {L : Array Bool} {i : Nat} (hc : Closed ops L) (hi : i ∈ Region.ready .any ops L) : Closed ops (L.setIfInBounds i true) := by
  obtain ⟨hun, oi, hoi, hall⟩ := mem_ready.1 hi
  intro m o ho h1 h2 e he hb
  by_cases hm : m = i
  · subst hm
    rw [hoi] at ho; cases ho
    exact getD_set_true (hall e he hb)
  · refine getD_set_true (hc m o ho (fun h => ?_) (by simpa using h2) e he hb)
    have := h1 h2
    rwa [getD_set_ne true (Ne.symm hm)] at this
theorem tlB_not {ops : Array Oper} {L : Array Bool} {i j : Nat} {oj : Oper} (hc : Closed ops L) (hi : L.getD i true = false) (hj : ops[j]? = some oj) (hall : ∀ e ∈ oj.after, Region.binds .any e = true → L.getD e.on false = true) (h : tlB ops (L.setIfInBounds i true) j = true) : False := by
  have hlt : i < L.size := by
    rcases Nat.lt_or_ge i L.size with h' | h'
    · exact h'
    · simp [Array.getElem?_eq_none h'] at hi
  have h1 := List.all_eq_true.1 h i (by simpa using hlt)
  simp only [Array.getD_eq_getD_getElem?, Array.getElem?_setIfInBounds_self_of_lt hlt, Option.getD_some, Bool.not_true, Bool.false_or] at h1
  have h2 := reach_listed hc 4 j (fun o ho => by rw [hj] at ho; cases ho; exact hall) h1
  simp [hlt] at hi h2
  rw [hi] at h2; cases h2
theorem wpAnyT_first {ops : Array Oper} {Q : Exit → Act → World → Prop} {S : World → Prop} {i : Nat} {oi : Oper} {v : Value} (hi : ops[i]? = some oi) (hsel : ∀ (j : Nat) (o : Oper) cs b, ops[j]? = some o → o.op ≠ .select cs b)
    (hQ : ∀ c a w, Q (.panic c) (a.put oi.dst v) w → Q (.panic c) a w) :
    ∀ (fuel : Nat) (listed : Array Bool) (a : Act) (w : World),
      (∀ j oj, ops[j]? = some oj → j ≠ i → listed.getD j true = false → (∀ e ∈ oj.after, Region.binds .any e = true → e.on ≠ i) → oi.apart ops oj = true) →
      Closed ops listed → i ∈ Region.ready .any ops listed → YieldsIf P ops S oi v a → S w →
      wpAnyT P ops Q S fuel (listed.setIfInBounds i true) (a.put oi.dst v) w → wpAnyT P ops Q S (fuel + 1) listed a w := by
  intro fuel
  induction fuel with
  | zero =>
    intro listed a w _ _ hr hy hS H
    refine ⟨fun h => (by rw [h] at hr; cases hr), fun j hj => ?_⟩
    by_cases hji : j = i
    · subst hji; exact hy.wpOp hi hS ⟨.inr hS, H⟩
    · have := ready_mono hj hji
      rw [H.1] at this
      cases this
  | succ fuel ih =>
    intro listed a w hfree hcl hr hy hS H
    refine ⟨fun h => (by rw [h] at hr; cases hr), fun j hj => ?_⟩
    by_cases hji : j = i
    · subst hji; exact hy.wpOp hi hS ⟨.inr hS, H⟩
    · have h1 := H.2 j (ready_mono hj hji)
      obtain ⟨hjun, oj, hoj, hall⟩ := mem_ready.1 hj
      have hiun := (mem_ready.1 hr).1
      have hnot : ∀ e ∈ oj.after, Region.binds .any e = true → e.on ≠ i := fun e he hb heq => by
        have h1 := hall e he hb
        have h0 := hiun
        rw [heq] at h1
        rcases Nat.lt_or_ge i listed.size with h' | h'
        · simp [h'] at h0 h1; rw [h0] at h1; cases h1
        · simp [Array.getElem?_eq_none h'] at h1
      have h2 := wpOp_putIf hoj (hfree j oj hoj hji hjun hnot) (fun cs b => hsel i oi cs b hi) (fun cs b => hsel j oj cs b hoj) hQ hy h1
      have hfree' : ∀ k ok, ops[k]? = some ok → k ≠ i → (listed.setIfInBounds j true).getD k true = false →
          (∀ e ∈ ok.after, Region.binds .any e = true → e.on ≠ i) → oi.apart ops ok = true := fun k ok hk hki hun hno => by
        refine hfree k ok hk hki ?_ hno
        by_cases hjk : j = k
        · subst hjk; exact hjun
        · rw [getD_set_ne true hjk] at hun; exact hun
      refine wpOp_mono (fun a' w' h3 => ?_) h2
      have hS' : S w' := h3.2.1.elim (fun h => (tlB_not hcl hiun hoj hall h).elim) id
      refine ⟨.inr hS', ih (listed.setIfInBounds j true) a' w' hfree' (closed_add hcl hj) (ready_mono hr (Ne.symm hji)) h3.1 hS' ?_⟩
      rw [Array.setIfInBounds_comm _ _ hji]
      exact h3.2.2
theorem wpAnyT_done {ops : Array Oper} {Q : Exit → Act → World → Prop} {S : World → Prop} {listed : Array Bool} {a : Act} {w : World} (hr : Region.ready .any ops listed = []) (h : Q .normal a w) :
    ∀ fuel, wpAnyT P ops Q S fuel listed a w
  | 0 => ⟨hr, h⟩
  | _ + 1 => ⟨fun _ => h, by rw [hr]; simp⟩
theorem wpAnyT_all {ops : Array Oper} {Q : Exit → Act → World → Prop} {S : World → Prop} {rs : List Nat} {fuel : Nat} {listed : Array Bool} {a : Act} {w : World} (hr : Region.ready .any ops listed = rs) (hne : rs ≠ [])
    (h : ∀ i ∈ rs, wpOp P ops Q i (fun a' w' => (tlB ops listed i = true ∨ S w') ∧ wpAnyT P ops Q S fuel (listed.setIfInBounds i true) a' w') a w) : wpAnyT P ops Q S (fuel + 1) listed a w :=
  ⟨fun h0 => absurd (hr ▸ h0) hne, hr ▸ h⟩
theorem drawL_sound {l : List Oper} {S : World → Prop} {Q : Exit → Act → World → Prop} (W : List Nat) (e0 : Env)
    (hd : ∀ o ∈ l, ∀ d, o.dst = some d → mem d W = true) (hds : ∀ o ∈ l, o.dst ≠ some dSlot) {K : Env → World → Prop} (hK : ∀ e' w', Fr W e0 e' → K e' w' → Q .normal (act N e') w') :
    ∀ (p : Plan) (s : Array Bool) (n : Nat) (e : Env) (w : World), p.tail = true → planOk l.toArray p s = true → Fr W e0 e → (p.size ≤ n) → drawC P N l S K p e w → wpAnyT P l.toArray Q S n s (act N e) w := by
  intro p
  induction p with
  | done =>
    intro s n e w _ hok hf _ h
    simp only [planOk, List.isEmpty_iff] at hok
    exact wpAnyT_done hok (hK e w hf h) n
  | last i p ih =>
    intro s n e w ht hok hf hn h
    obtain ⟨n, rfl⟩ : ∃ m, n = m + 1 := ⟨n - 1, by simp only [Plan.size] at hn; omega⟩
    simp only [planOk, Bool.and_eq_true, beq_iff_eq] at hok
    obtain ⟨⟨⟨⟨h1, _⟩, h2⟩, h3⟩, h4⟩ := hok
    simp only [drawC] at h
    obtain ⟨o, ho, hg⟩ := rd_ex h
    clear h
    refine wpAnyT_all h1 (by simp) ?_
    intro j hj
    have hji : j = i := by simpa using hj
    subst hji
    exact opg_wpOp ho (hds o (List.mem_of_getElem? ho)) (fun v w' h' => ⟨.inl h2, ih _ _ _ _ h3 h4 (hf.put _ _ fun d e => hd o (List.mem_of_getElem? ho) d e) (by simp only [Plan.size] at hn; omega) h'⟩) hg
  | _ => intro s n e w ht; cases ht
theorem drawC_sound {l : List Oper} {S : World → Prop} {Q : Exit → Act → World → Prop} (hQ : ∀ c a w, ¬ Q (.panic c) a w) (hsel : Region.noSelect l.toArray = true) (W : List Nat) (e0 : Env)
    (hd : ∀ o ∈ l, ∀ d, o.dst = some d → mem d W = true) (hds : ∀ o ∈ l, o.dst ≠ some dSlot) {K : Env → World → Prop} (hK : ∀ e' w', Fr W e0 e' → K e' w' → Q .normal (act N e') w') :
    ∀ (p : Plan) (s : Array Bool) (n : Nat) (e : Env) (w : World), planOk l.toArray p s = true → Closed l.toArray s → Fr W e0 e → S w → (p.size ≤ n) → drawC P N l S K p e w → wpAnyT P l.toArray Q S n s (act N e) w := by
  intro p
  induction p with
  | done =>
    intro s n e w hok hcl hf hS _ h
    simp only [planOk, List.isEmpty_iff] at hok
    exact wpAnyT_done hok (hK e w hf h) n
  | take i p ih =>
    intro s n e w hok hcl hf hS hn h
    obtain ⟨n, rfl⟩ : ∃ m, n = m + 1 := ⟨n - 1, by simp only [Plan.size] at hn; omega⟩
    simp only [planOk, Bool.and_eq_true, decide_eq_true_eq] at hok
    obtain ⟨⟨⟨⟨h1, h2⟩, h3⟩, hq⟩, h4⟩ := hok
    obtain ⟨o, ho, h⟩ := rd_ex h
    have ho' : l.toArray[i]? = some o := by simpa using ho
    rw [ho'] at hq
    obtain ⟨v, hy, hk⟩ := takeC_elim hq h
    refine wpAnyT_first ho' (Region.noSelect_spec hsel) (fun c a w hp => (hQ _ _ _ hp).elim) n s _ w (Region.free_spec ho' h1) hcl (by simpa using h2) hy hS ?_
    rw [act_put _ _ _ _ (hds o (List.mem_of_getElem? ho))]
    exact ih _ _ _ _ h4 (closed_add hcl (by simpa using h2)) (hf.put _ _ fun d e => hd o (List.mem_of_getElem? ho) d e) hS (by simp only [Plan.size] at hn; omega) hk
  | one i p ih =>
    intro s n e w hok hcl hf hS hn h
    obtain ⟨n, rfl⟩ : ∃ m, n = m + 1 := ⟨n - 1, by simp only [Plan.size] at hn; omega⟩
    simp only [planOk, Bool.and_eq_true, beq_iff_eq] at hok
    obtain ⟨⟨h1, _⟩, h4⟩ := hok
    simp only [drawC] at h
    obtain ⟨o, ho, h2⟩ := rd_ex h
    clear h
    have h := h2
    refine wpAnyT_all h1 (by simp) ?_
    intro j hj
    have hji : j = i := by simpa using hj
    subst hji
    exact opg_wpOp ho (hds o (List.mem_of_getElem? ho)) (fun v w' ⟨hS', h'⟩ => ⟨.inr hS', ih _ _ _ _ h4 (closed_add hcl (by rw [h1]; simp)) (hf.put _ _ fun d e => hd o (List.mem_of_getElem? ho) d e) hS' (by simp only [Plan.size] at hn; omega) h'⟩) h
  | two i p j q ihp ihq =>
    intro s n e w hok hcl hf hS hn h
    obtain ⟨n, rfl⟩ : ∃ m, n = m + 1 := ⟨n - 1, by simp only [Plan.size] at hn; omega⟩
    simp only [planOk, Bool.and_eq_true, beq_iff_eq] at hok
    obtain ⟨⟨⟨⟨h1, _⟩, _⟩, h4⟩, h5⟩ := hok
    simp only [drawC] at h
    obtain ⟨hl, hr⟩ := h
    obtain ⟨o, ho, h⟩ := rd_ex hl
    obtain ⟨o', ho', h'⟩ := rd_ex hr
    refine wpAnyT_all h1 (by simp) ?_
    intro k hk
    have hk' : k = i ∨ k = j := by simpa using hk
    simp only [Plan.size] at hn
    rcases hk' with hk' | hk' <;> subst hk'
    · exact opg_wpOp ho (hds o (List.mem_of_getElem? ho)) (fun v w' ⟨hS', h'⟩ => ⟨.inr hS', ihp _ _ _ _ h4 (closed_add hcl (by rw [h1]; simp)) (hf.put _ _ fun d e => hd o (List.mem_of_getElem? ho) d e) hS' (by omega) h'⟩) h
    · exact opg_wpOp ho' (hds o' (List.mem_of_getElem? ho')) (fun v w' ⟨hS', h''⟩ => ⟨.inr hS', ihq _ _ _ _ h5 (closed_add hcl (by rw [h1]; simp)) (hf.put _ _ fun d e => hd o' (List.mem_of_getElem? ho') d e) hS' (by omega) h''⟩) h'
  | last i p _ =>
    intro s n e w hok hcl hf hS hn h
    have ht : (Plan.last i p).tail = true := by
      simp only [planOk, Bool.and_eq_true] at hok
      exact hok.1.2
    exact drawL_sound W e0 hd hds hK (.last i p) s n e w ht hok hf hn h
theorem bShort_ok {b : Builtin} {ts : List TypeId} {vs : List Value} {n : Nat} (h : shortOk P b ts n = true) (hn : vs.length = n) : bShort P b ts vs ≠ .no := by
  unfold shortOk at h
  unfold bShort
  split at h
  · match vs, hn with
    | [x], _ => simp only; split at h <;> first | (cases h; done) | (rename_i hk; simp [hk])
  · match vs, hn with
    | [x, y], _ => simp only; split at h <;> first | (cases h; done) | (rename_i hk; simp [hk])
  · match vs, hn with
    | [x, y], _ => simp only; split at h <;> first | (cases h; done) | (rename_i hk; simp [hk])
  · cases h
theorem opv_same {ty : TypeId} {e : Env} {w : World} {K : Value → World → Prop} {op : Op} (hr : readsOp P op = true) (h : opv P N ty e w K op) :
    ∃ v, K v w ∧ ∀ K' : Value → World → Prop, K' v w → opv P N ty e w K' op := by
  cases op with
  | move x => exact ⟨_, h, fun _ h => h⟩
  | assign x => exact ⟨_, h, fun _ h => h⟩
  | pick c a b => obtain ⟨t, ht, h⟩ := isB_ex h; exact ⟨_, h, fun K' h => by simp only [opv, ht]; exact h⟩
  | load t a =>
    obtain ⟨ad, ha, h⟩ := isPtr_ex h
    unfold loadC at h
    split at h
    · rename_i hg; obtain ⟨cs, hc, h⟩ := rd_ex h; exact ⟨_, h, fun K' h => by simp only [opv, ha, isPtr, loadC, hg, rd, hc]; exact h⟩
    · rename_i hg; obtain ⟨u, hu, h⟩ := rd_ex h; obtain ⟨v, hv, h⟩ := rd_ex h; exact ⟨_, h, fun K' h => by simp only [opv, ha, isPtr, loadC, hg, rd, hu, hv]; exact h⟩
  | nilCheck x =>
    simp only [opv] at h ⊢
    unfold nilCV at h ⊢
    split at h
    · rename_i name first cpt hx
      split at h
      · rename_i r rest hr
        obtain ⟨t, v, rfl, h⟩ := isIf_ex h
        obtain ⟨hn, hK⟩ := h
        refine ⟨_, hK, fun K' h' => ?_⟩
        first
          | exact ⟨hn, h'⟩
          | (rw [hr]; exact ⟨hn, h'⟩)
          | (simp only [hx, hr]; exact ⟨hn, h'⟩)
      · exact h.elim
    · rename_i hx
      obtain ⟨v, hv, h⟩ := rd_ex h
      refine ⟨_, h, fun K' h' => ?_⟩
      first
        | (rw [hv]; exact h')
        | (split
           · rename_i name first cpt hx'; exact absurd hx' (hx _ _ _)
           · rw [hv]; exact h')
  | binOp o t x y t' => obtain ⟨v, hv, h⟩ := rd_ex h; exact ⟨_, h, fun K' h => by simp only [opv, hv]; exact h⟩
  | unOp o t x => obtain ⟨v, hv, h⟩ := rd_ex h; exact ⟨_, h, fun K' h => by simp only [opv, hv]; exact h⟩
  | fieldAddr s x f =>
    simp only [opv] at h
    split at h
    · rename_i fs hk
      obtain ⟨a, ha, h⟩ := isPtr_ex h; obtain ⟨fd, hf, h⟩ := rd_ex h; obtain ⟨u, hb, h⟩ := rd_ex h
      exact ⟨_, h, fun K' h => by simp only [opv, hk, ha, isPtr, rd, hf, hb]; exact h⟩
    · exact h.elim
  | field t x f =>
    simp only [opv] at h
    split at h
    · rename_i fs hk
      obtain ⟨cs, ha, h⟩ := isCs_ex h; obtain ⟨fd, hf, h⟩ := rd_ex h
      unfold partC at h
      split at h
      · rename_i hg
        exact ⟨_, h, fun K' h => by simp only [opv, hk, ha, isCs, rd, hf, partC, hg]; exact h⟩
      · rename_i hg; obtain ⟨u, hu, h⟩ := rd_ex h; obtain ⟨v, hv, h⟩ := rd_ex h
        exact ⟨_, h, fun K' h => by simp only [opv, hk, ha, isCs, rd, hf, partC, hg, hu, hv]; exact h⟩
    · exact h.elim
  | indexAddr t x ix =>
    simp only [opv] at h
    split at h
    · rename_i el hk
      obtain ⟨k, i, hi, h⟩ := isInt_ex h; obtain ⟨a, n, c, hx, h⟩ := isSl_ex h; obtain ⟨ad, ha, h⟩ := rd_ex h; obtain ⟨u, hb, hn, h⟩ := rd_ex h
      exact ⟨_, h, fun K' h => by simp only [opv, hk, hi, hx, isInt, isSl, ha, rd, hb]; exact ⟨hn, h⟩⟩
    · rename_i n el hk
      obtain ⟨k, i, hi, h⟩ := isInt_ex h; obtain ⟨ad, hx, h⟩ := isPtr_ex h; obtain ⟨u, hb, hn, h⟩ := rd_ex h
      exact ⟨_, h, fun K' h => by simp only [opv, hk, hi, hx, isInt, isPtr, rd, hb]; exact ⟨hn, h⟩⟩
    · exact h.elim
  | extract t ix => simp only [opv] at h; obtain ⟨vs, hv, h⟩ := isTup_ex h; obtain ⟨v, hx, h⟩ := rd_ex h; exact ⟨_, h, fun K' h => by simp only [opv, hv, isTup, rd, hx]; exact h⟩
  | makeInterface t x => obtain ⟨u, hb, h⟩ := rd_ex h; exact ⟨_, h, fun K' h => by simp only [opv, rd, hb]; exact h⟩
  | makeFunc f a c => exact ⟨_, h, fun _ h => h⟩
  | convert s d x =>
    simp only [readsOp, Bool.and_eq_true] at hr
    simp only [opv] at h
    split at h
    · rename_i k k' hs hd; obtain ⟨k'', n, hx, h⟩ := isInt_ex h; exact ⟨_, h, fun K' h => by simp only [opv, hs, hd, hx, isInt]; exact h⟩
    · rename_i hn
      obtain ⟨hs, hd⟩ := hr
      unfold intK at hs hd
      split at hs
      · rename_i k hks
        split at hd
        · rename_i k' hkd; exact (hn _ _ hks hkd).elim
        · cases hd
      · cases hs
  | call c =>
    obtain ⟨cal, args, ts⟩ := c
    cases cal with
    | builtin b =>
      simp only [readsOp] at hr
      have hno := bShort_ok (vs := args.toList.map (ev N e)) hr (by simp)
      simp only [opv] at h
      split at h
      · rename_i x hb; obtain ⟨a, n, cp, hx, h⟩ := isSl_ex h; exact ⟨_, h, fun K' h => by simp only [opv, hb, hx]; exact h⟩
      · rename_i x hb; obtain ⟨s, hx, h⟩ := isStr_ex h; exact ⟨_, h, fun K' h => by simp only [opv, hb, hx]; exact h⟩
      · rename_i x y hb; obtain ⟨k, a, hx, h1⟩ := isInt_ex h; obtain ⟨k', a', hy, h2⟩ := isInt_ex h1; exact ⟨_, h2, fun K' h => by simp only [opv, hb, hx, hy]; exact h⟩
      · rename_i x y hb; obtain ⟨k, a, hx, h1⟩ := isInt_ex h; obtain ⟨k', a', hy, h2⟩ := isInt_ex h1; exact ⟨_, h2, fun K' h => by simp only [opv, hb, hx, hy]; exact h⟩
      · rename_i hb; exact (hno hb).elim
    | _ => simp [readsOp] at hr
  | _ => simp [readsOp] at hr
theorem gate_mono {v : Option (Nat × Bool)} {e : Env} {want : Bool} {K1 K2 K1' K2' : Env → Prop} (h1 : ∀ e, K1 e → K1' e) (h2 : ∀ e, K2 e → K2' e) (h : gate N v e want K1 K2) : gate N v e want K1' K2' := by
  unfold gate at h ⊢
  split at h
  · rename_i d g
    obtain ⟨v, hv, h⟩ := rd_ex h
    refine rd_of hv ?_
    rcases gateB_ex h with ⟨b, rfl, h3⟩ | ⟨vs, rfl, rfl, h3⟩
    · have h' : gsel want e d K1' K2' b := by
        unfold gsel at h3 ⊢
        cases want <;> cases b
        · exact h1 _ h3
        · exact h2 _ h3
        · exact h2 _ h3
        · exact h1 _ h3
      cases g <;> exact h'
    · exact h2 _ h3
  · exact h.elim
theorem takeC_of' {S : World → Prop} {all : List Oper} {o : Oper} {e : Env} {w : World} {K K' : Env → Prop} (hr : readsOp P o.op = true) (h : takeC P N S all o e w K) (hk : ∀ e', K e' → K' e') : takeC P N S all o e w K' := by
  have key : ∀ e, opv P N o.type e w (fun v _ => (∀ w', S w' → opv P N o.type e w' (fun v' w'' => v' = v ∧ w'' = w') o.op) ∧ typedO P o v fun v => K (put e o.dst v)) o.op →
      opv P N o.type e w (fun v _ => (∀ w', S w' → opv P N o.type e w' (fun v' w'' => v' = v ∧ w'' = w') o.op) ∧ typedO P o v fun v => K' (put e o.dst v)) o.op := by
    intro e h
    obtain ⟨v, hk', hall⟩ := opv_same hr h
    exact hall _ ⟨hk'.1, typedO_mono hk'.2 (hk _)⟩
  unfold takeC at h ⊢
  split at h
  · exact key _ h
  · exact gate_mono key (fun _ => hk _) h
theorem takeC_of {S : World → Prop} {all : List Oper} {o : Oper} {e : Env} {w : World} {K : Env → World → Prop} (hr : readsOp P o.op = true) (hS : ∀ w', S w' → w' = w) (h : opg P N all o e w K) : takeC P N S all o e w (fun e' => K e' w) := by
  have key : ∀ e, opv P N o.type e w (fun v w' => typedO P o v fun v => K (put e o.dst v) w') o.op → opv P N o.type e w (fun v _ => (∀ w', S w' → opv P N o.type e w' (fun v' w'' => v' = v ∧ w'' = w') o.op) ∧ typedO P o v fun v => K (put e o.dst v) w) o.op := by
    intro e h
    obtain ⟨v, hk, hall⟩ := opv_same hr h
    refine hall _ ⟨fun w' hw' => ?_, hk⟩
    obtain rfl := hS _ hw'
    exact hall _ ⟨rfl, rfl⟩
  unfold opg at h
  unfold takeC
  split at h
  · exact key _ h
  · exact gate_mono key (fun _ h => h) h
theorem opvY_reads {ty : TypeId} {e : Env} {w : World} {K : Value → World → Prop} {op : Op} (hr : readsOp P op = true) : opvY P N ty e w K op = opv P N ty e w K op := by
  unfold opvY
  split
  · cases hr
  · cases hr
  · rfl
theorem opgY_reads {all : List Oper} {o : Oper} {e : Env} {w : World} {K : Env → World → Prop} (hr : readsOp P o.op = true) (h : opgY P N all o e w K) : opg P N all o e w K := by
  unfold opgY at h
  unfold opg
  simp only [opvY_reads hr] at h
  exact h
theorem ops_draw {l : List Oper} {w : World} (K : Env → World → Prop) (hr : ∀ o ∈ l, readsOp P o.op = true) : ∀ (r : List Oper) (i : Nat), l.drop i = r → ∀ e, ops P N l r K e w → drawC P N l (fun w' => w' = w) K (lexPlan r.length i) e w := by
  intro r
  induction r with
  | nil => intro i _ e h; exact h
  | cons o r ih =>
    intro i hi e h
    have ho : l[i]? = some o := by
      have : (l.drop i)[0]? = some o := by rw [hi]; rfl
      simpa using this
    simp only [List.length_cons, lexPlan, drawC, ho, rd]
    refine takeC_of' (hr o (List.mem_of_getElem? ho)) (takeC_of (hr o (List.mem_of_getElem? ho)) (fun _ h => h) (opgY_reads (hr o (List.mem_of_getElem? ho)) h)) ?_
    intro e' h'
    exact ih (i + 1) (by rw [← List.drop_drop, hi]; rfl) e' h'
theorem mem_dsts {l : List Oper} {o : Oper} (ho : o ∈ l) {d : Nat} (hd : o.dst = some d) : mem d (dsts l) = true := by
  induction l with
  | nil => cases ho
  | cons x l ih =>
    simp only [dsts]
    rcases List.mem_cons.1 ho with rfl | ho
    · rw [hd]; exact mem_ins (.inl rfl)
    · split
      · exact mem_ins (.inr (ih ho))
      · exact ih ho
theorem havoc_self {S : List Nat} {e e' : Env} (h : Fr S e e') : havoc S e' e = e' := by
  funext s
  simp only [havoc]
  cases hm : mem s S with
  | true => rfl
  | false => exact (h s hm).symm
theorem okD_fr {S : List Nat} {e e' : Env} (h : okD e) (hf : Fr S e e') (hS : mem dSlot S = false) : okD e' := by
  obtain ⟨ds, hd⟩ := h
  exact ⟨ds, (hf dSlot hS).trans hd⟩
theorem dsts_ok {l : List Oper} (h : (l.all fun o => match o.dst with | some d => Nat.blt d N | none => true) = true) (hN : N ≤ dSlot) : mem dSlot (dsts l) = false ∧ (∀ o ∈ l, o.dst ≠ some dSlot) ∧ ∀ s, mem s (dsts l) = true → Nat.blt s N = true := by
  have h1 : ∀ o ∈ l, ∀ d, o.dst = some d → Nat.blt d N = true := by
    intro o ho d hd
    have := List.all_eq_true.1 h o ho
    rw [hd] at this
    exact this
  have h3 : ∀ s, mem s (dsts l) = true → Nat.blt s N = true := by
    clear h
    induction l with
    | nil => intro s hs; cases hs
    | cons o l ih =>
      intro s hs
      simp only [dsts] at hs
      split at hs
      · rename_i d hd
        rcases mem_ins_elim hs with rfl | hs
        · exact h1 o (by simp) _ hd
        · exact ih (fun o ho => h1 o (by simp [ho])) s hs
      · exact ih (fun o ho => h1 o (by simp [ho])) s hs
  refine ⟨?_, fun o ho hd => ?_, h3⟩
  · cases hm : mem dSlot (dsts l) with
    | false => rfl
    | true => have := h3 _ hm; rw [Nat.blt_eq] at this; omega
  · have := h1 o ho _ hd
    rw [Nat.blt_eq] at this; omega
theorem wOk_writes (hN : N ≤ dSlot) : ∀ (c : Code), wOk N c = true → ∀ s, mem s (writes c) = true → Nat.blt s N = true ∨ s = dSlot := by
  intro c
  induction c with
  | region id l d => intro h s hs; exact .inl ((dsts_ok h hN).2.2 s hs)
  | seq a b iha ihb =>
    intro h s hs
    simp only [wOk, Bool.and_eq_true] at h
    rcases mem_uni_elim hs with hs | hs
    · exact iha h.1 s hs
    · exact ihb h.2 s hs
  | cond c a b iha ihb =>
    intro h s hs
    simp only [wOk, Bool.and_eq_true] at h
    rcases mem_uni_elim hs with hs | hs
    · exact iha h.1 s hs
    · exact ihb h.2 s hs
  | block id c ih => intro h s hs; exact ih h s hs
  | loop c ih => intro h s hs; exact ih h s hs
  | rangeFunc f ps asg bd _ _ =>
    intro h s hs
    simp only [writes, mem] at hs
    cases hb : Nat.beq s dSlot with
    | true => exact .inr (Nat.eq_of_beq_eq_true hb)
    | false => rw [hb] at hs; cases hs
  | _ => intro h s hs; cases hs
def undf (ds : List Deferred) : List Nat := ds.map fun d => match d.target with | .collected D => D | _ => 0
theorem undf_act (e : Env) (h : okD e) : encD (undf (act N e).defers) = e dSlot := by
  obtain ⟨ds, hd⟩ := h
  simp only [act, hd, dfOf_encD, undf, List.map_map]
  congr 1
  rw [show ((fun d : Deferred => match d.target with | .collected D => D | _ => 0) ∘ markD) = id from rfl, List.map_id]
theorem putP_tmps (hN : N ≤ dSlot) (enc : Nat → Value) : ∀ (ps : List Nat) (j : Nat) (e : Env), (∀ p ∈ ps, p < N) → (act N (putP ps j enc e)).tmps = (ps.zip ((List.range' j ps.length).map enc)).foldl (fun t (p, v) => t.setIfInBounds p v) (act N e).tmps := by
  intro ps
  induction ps with
  | nil => intro j e _; rfl
  | cons p ps ih =>
    intro j e h
    simp only [putP, List.length_cons, List.range'_succ, List.map_cons, List.zip_cons_cons, List.foldl_cons]
    rw [ih (j + 1) _ (fun q hq => h q (by simp [hq]))]
    congr 1
    exact (congrArg Act.tmps (act_put N e (some p) (enc j) (fun he => by have := h p (by simp); have := Option.some.inj he; omega))).symm
theorem putP_d (hN : N ≤ dSlot) (enc : Nat → Value) : ∀ (ps : List Nat) (j : Nat) (e : Env), (∀ p ∈ ps, p < N) → putP ps j enc e dSlot = e dSlot := by
  intro ps
  induction ps with
  | nil => intro j e _; rfl
  | cons p ps ih =>
    intro j e h
    simp only [putP]
    rw [ih _ _ (fun q hq => h q (by simp [hq]))]
    have : Nat.beq dSlot p = false := by
      cases hb : Nat.beq dSlot p with
      | false => rfl
      | true => have := Nat.eq_of_beq_eq_true hb; have := h p (by simp); omega
    simp only [put, this, cond_false]
theorem asgL_d : ∀ (l : List Oper) (e e1 : Env), asgL N l e = some e1 → (∀ o ∈ l, o.dst ≠ some dSlot) → e1 dSlot = e dSlot := by
  intro l
  induction l with
  | nil => intro e e1 h _; cases h; rfl
  | cons o l ih =>
    intro e e1 h hs
    have ho := hs o (by simp)
    simp only [asgL] at h
    have nb : ∀ d, o.dst = some d → Nat.beq dSlot d = false := fun d hd => by
      cases hb : Nat.beq dSlot d with
      | false => rfl
      | true => exact absurd (by rw [hd, Nat.eq_of_beq_eq_true hb]) ho
    split at h
    · rename_i x d hg hop hd
      rw [ih _ _ h (fun o' ho' => hs o' (by simp [ho']))]
      simp only [put, nb d hd, cond_false]
    · rename_i x d hg hop hd
      rw [ih _ _ h (fun o' ho' => hs o' (by simp [ho']))]
      simp only [put, nb d hd, cond_false]
    · cases h
theorem asgE_d (hN : N ≤ dSlot) : ∀ (c : Code) (e e1 : Env), asgE N c e = some e1 → wOk N c = true → e1 dSlot = e dSlot := by
  intro c
  induction c with
  | skip => intro e e1 h _; cases h; rfl
  | region id l d =>
    intro e e1 h hw
    cases d with
    | true => cases h
    | false => exact asgL_d _ _ _ h (dsts_ok hw hN).2.1
  | seq a b iha ihb =>
    intro e e1 h hw
    simp only [asgE] at h
    simp only [wOk, Bool.and_eq_true] at hw
    split at h
    · rename_i e' he
      exact (ihb _ _ h hw.2).trans (iha _ _ he hw.1)
    · cases h
  | _ => intro e e1 h; cases h
theorem asgL_some : ∀ (l : List Oper) (e e' : Env), (asgL N l e).isSome = true → (asgL N l e').isSome = true := by
  intro l
  induction l with
  | nil => intro e e' _; rfl
  | cons o l ih =>
    intro e e' h
    simp only [asgL] at h ⊢
    split at h
    · rename_i x d hg hop hd; first | exact ih _ _ h | (simp only [hg, hop, hd]; exact ih _ _ h)
    · rename_i x d hg hop hd; first | exact ih _ _ h | (simp only [hg, hop, hd]; exact ih _ _ h)
    · cases h
theorem asgE_some : ∀ (c : Code) (e e' : Env), (asgE N c e).isSome = true → (asgE N c e').isSome = true := by
  intro c
  induction c with
  | skip => intro e e' _; rfl
  | region id l d =>
    intro e e' h
    cases d with
    | true => cases h
    | false => exact asgL_some _ _ _ h
  | seq a b iha ihb =>
    intro e e' h
    simp only [asgE] at h ⊢
    cases ha : asgE N a e with
    | none => rw [ha] at h; cases h
    | some e1 =>
      rw [ha] at h
      have := iha e e' (by rw [ha]; rfl)
      cases ha' : asgE N a e' with
      | none => rw [ha'] at this; cases this
      | some e2 => exact ihb _ _ h
  | _ => intro e e' h; cases h
theorem asgL_sound {r : Option Nat} {n : Nat} {all : List Oper} {Q : Exit → Act → World → Prop} : ∀ (l : List Oper) (e e1 : Env) (w : World), asgL N l e = some e1 → (∀ o ∈ l, o.dst ≠ some dSlot) → Q .normal (act N e1) w → wpListIn (fen r) n P all.toArray Q l (act N e) w := by
  intro l
  induction l with
  | nil => intro e e1 w h _ hq; cases h; exact hq
  | cons o l ih =>
    intro e e1 w h hs hq
    have ho := hs o (by simp)
    simp only [asgL] at h
    unfold wpListIn
    split at h
    · rename_i x d hg hop hd
      rw [if_pos (wanted_none hg _)]
      refine opvY_sound (K := fun v w' => v = ev N e x ∧ w' = w) ho ?_ (by rw [hop]; exact ⟨rfl, rfl⟩)
      rintro _ _ ⟨rfl, rfl⟩
      rw [hd]
      exact ih _ _ _ h (fun o' ho' => hs o' (by simp [ho'])) hq
    · rename_i x d hg hop hd
      rw [if_pos (wanted_none hg _)]
      refine opvY_sound (K := fun v w' => v = ev N e x ∧ w' = w) ho ?_ (by rw [hop]; exact ⟨rfl, rfl⟩)
      rintro _ _ ⟨rfl, rfl⟩
      rw [hd]
      exact ih _ _ _ h (fun o' ho' => hs o' (by simp [ho'])) hq
    · cases h
theorem asgE_sound {r : Option Nat} {n : Nat} (hN : N ≤ dSlot) : ∀ (c : Code) (e e1 : Env) (w : World) (Q : Exit → Act → World → Prop), asgE N c e = some e1 → wOk N c = true → Q .normal (act N e1) w → c.wpIn (fen r) n P Q (act N e) w := by
  intro c
  induction c with
  | skip => intro e e1 w Q h _ hq; cases h; exact wpIn_skip hq
  | region id l d =>
    intro e e1 w Q h hw hq
    cases d with
    | true => cases h
    | false => exact wpIn_region_list (by have := asgL_sound (P := P) (r := r) (n := n) (all := l.toList) l.toList e e1 w h (dsts_ok hw hN).2.1 hq; simpa using this)
  | seq a b iha ihb =>
    intro e e1 w Q h hw hq
    simp only [asgE] at h
    simp only [wOk, Bool.and_eq_true] at hw
    split at h
    · rename_i e' he
      exact wpIn_seq (iha e e' w _ he hw.1 (ihb e' e1 w Q h hw.2 hq))
    · cases h
  | _ => intro e e1 w Q h; cases h
theorem seq_any {α : Type} {m n : Nat} {g : Nat} {lb : Array Value} {encs : α → Array Value} {Kp : World → World → Prop} {S Sp : List α → Prop} {M : Nat} {w : World} (h : SeqStopsK Fence.wide m P g lb encs Kp S Sp M w) : SeqStopsK (fen none) n P g lb encs Kp S Sp M w := by
  intro l J Jx W hW hJ hJx hY h0
  refine callsIn_wide.2 (callsIn_wide.1 (h l J Jx W hW hJ hJx (fun pre x W1 hj hl => ?_) h0))
  obtain ⟨fn, tmps, assign, body, hy, hR⟩ := hY pre x W1 hj hl
  exact ⟨fn, tmps, assign, body, hy, round_any (r := none) hR⟩
theorem code_sound (hm : P.follows .mixedOrders = true) (H : Hints) (hN : N ≤ dSlot) : ∀ (c : Code) (_ : wOk N c = true) (r : Option Nat) (n : Nat) (_ : r = none → 1 ≤ n) (_ : r = none ∨ noRange c = true) (Q : Post) (e : Env) (w : World), okD e → (∀ ch e w, ¬ Q (.panic ch) e w) → (∀ e w, ¬ Q .outgrown e w) → (∀ t e w, ¬ Q (.goto t) e w) → code P H N c Q e w →
    c.wpIn (fen r) n P (lift N fun x e' w' => Fr (writes c) e e' ∧ Q x e' w') (act N e) w := by
  intro c
  induction c with
  | skip => intro _ r n _ _ Q e w hD _ _ _ h; exact wpIn_skip ⟨e, rfl, hD, Fr.refl _ _, h⟩
  | region id l d =>
    intro hw r n _ _ Q e w hD hQ hO hG h
    obtain ⟨hs1, hs2, hs3⟩ := dsts_ok hw hN
    simp only [code] at h
    split at h
    · have := ops_sound (P := P) (r := r) (n := n) (Q := lift N fun x e' w' => Fr (writes (.region id l false)) e e' ∧ Q x e' w') (dsts l.toList) e l.toList (fun e' w' => Q .normal e' w') e w (fun o ho d hd => mem_dsts ho hd) hs2 (Fr.refl _ _)
        (fun e' w' hf hq => ⟨e', rfl, okD_fr hD hf hs1, hf, hq⟩) h
      exact wpIn_region_list (by simpa using this)
    · have nodef : noDef l = true → ∀ (i : Nat) (o : Oper), l[i]? = some o → isDefer o.op = false := by
        intro hn i o ho
        have := List.all_eq_true.1 hn o (by simpa using Array.mem_of_getElem? ho)
        simpa using this
      split at h
      · rename_i hok
        obtain ⟨hnd, hro, hok1, hok2⟩ : noDef l = true ∧ (∀ o ∈ l.toList, readsOp P o.op = true) ∧ (Region.noSelect l = true ∧ (lexPlan l.size 0).size ≤ l.size) ∧ planOk l (lexPlan l.size 0) (Array.replicate l.size false) = true := by
          simp only [planFit, Bool.and_eq_true, List.all_eq_true, decide_eq_true_eq] at hok
          exact ⟨hok.1.1, hok.1.2, hok.2.1, hok.2.2⟩
        refine wpIn_region_any hm (any_in (by rintro a w ⟨e', _, _, _, hq⟩; exact hO _ _ hq) (nodef hnd) _ _ _ _ (wpAny_of_T (S := fun w' => w' = w.drew) _ _ _ _ ?_))
        have hdr := ops_draw (P := P) (l := l.toList) (w := w.drew) (fun e' w' => Q .normal e' w') hro l.toList 0 rfl e h
        have := drawC_sound (P := P) (l := l.toList) (Q := lift N fun x e' w' => Fr (writes (.region id l true)) e e' ∧ Q x e' w') (S := fun w' => w' = w.drew) (by rintro c a w ⟨e', _, _, _, hq⟩; exact hQ _ _ _ hq) (by simpa using hok1.1) (dsts l.toList) e
          (fun o ho d hd => mem_dsts ho hd) hs2 (K := fun e' w' => Q .normal e' w') (fun e' w' hf hq => ⟨e', rfl, okD_fr hD hf hs1, hf, hq⟩) (lexPlan l.size 0) (Array.replicate l.size false) l.size e w.drew (by simpa using hok2) (closed_start _ _) (Fr.refl _ _) rfl hok1.2 (by simpa using hdr)
        simpa using this
      · split at h
        · rename_i hok
          obtain ⟨S, hS, h⟩ := h
          obtain ⟨hnd, hok1, hok2⟩ : noDef l = true ∧ (Region.noSelect l = true ∧ (H.plan id).size ≤ l.size) ∧ planOk l (H.plan id) (Array.replicate l.size false) = true := by
            simpa [planFit, Bool.and_eq_true] using hok
          refine wpIn_region_any hm (any_in (by rintro a w ⟨e', _, _, _, hq⟩; exact hO _ _ hq) (nodef hnd) _ _ _ _ (wpAny_of_T (S := S) _ _ _ _ ?_))
          have := drawC_sound (P := P) (l := l.toList) (Q := lift N fun x e' w' => Fr (writes (.region id l true)) e e' ∧ Q x e' w') (S := S) (by rintro c a w ⟨e', _, _, _, hq⟩; exact hQ _ _ _ hq) (by simpa using hok1.1) (dsts l.toList) e
            (fun o ho d hd => mem_dsts ho hd) hs2 (K := fun e' w' => Q .normal e' w') (fun e' w' hf hq => ⟨e', rfl, okD_fr hD hf hs1, hf, hq⟩) (H.plan id) (Array.replicate l.size false) l.size e w.drew (by simpa using hok2) (closed_start _ _) (Fr.refl _ _) hS hok1.2 h
          simpa using this
        · exact h.elim
  | seq a b iha ihb =>
    intro hw r n hn hr Q e w hD hQ hO hG h
    simp only [wOk, Bool.and_eq_true] at hw
    have hra : r = none ∨ noRange a = true := hr.imp id fun h => by simp only [noRange, Bool.and_eq_true] at h; exact h.1
    have hrb : r = none ∨ noRange b = true := hr.imp id fun h => by simp only [noRange, Bool.and_eq_true] at h; exact h.2
    simp only [code] at h
    refine wpIn_seq ?_
    split at h
    · obtain ⟨J, h1, h2⟩ := h
      refine wpIn_mono (iha hw.1 r n hn hra _ e w hD (by intro ch e w; exact hQ ch e w) (by intro e w; exact hO e w) (by intro t e w; exact hG t e w) h1) ?_
      rintro x ac w' ⟨e', rfl, hD', hf, hq⟩
      cases x with
      | normal =>
        simp only at hq
        have h3 := h2 e' w' (by rw [havoc_self hf]; exact hq)
        rw [havoc_self hf] at h3
        refine wpIn_mono (ihb hw.2 r n hn hrb Q e' w' hD' hQ hO hG h3) ?_
        rintro x ac w'' ⟨e'', rfl, hD'', hf', hq⟩
        exact ⟨e'', rfl, hD'', (hf.mono fun s hs => mem_uni (.inl hs)).trans (hf'.mono fun s hs => mem_uni (.inr hs)), hq⟩
      | _ => exact ⟨e', rfl, hD', hf.mono fun s hs => mem_uni (.inl hs), hq⟩
    · refine wpIn_mono (iha hw.1 r n hn hra _ e w hD (by intro ch e w; exact hQ ch e w) (by intro e w; exact hO e w) (by intro t e w; exact hG t e w) h) ?_
      rintro x ac w' ⟨e', rfl, hD', hf, hq⟩
      cases x with
      | normal =>
        refine wpIn_mono (ihb hw.2 r n hn hrb Q e' w' hD' hQ hO hG hq) ?_
        rintro x ac w'' ⟨e'', rfl, hD'', hf', hq⟩
        exact ⟨e'', rfl, hD'', (hf.mono fun s hs => mem_uni (.inl hs)).trans (hf'.mono fun s hs => mem_uni (.inr hs)), hq⟩
      | _ => exact ⟨e', rfl, hD', hf.mono fun s hs => mem_uni (.inl hs), hq⟩
  | cond c a b iha ihb =>
    intro hw r n hn hr Q e w hD hQ hO hG h
    simp only [wOk, Bool.and_eq_true] at hw
    have hra : r = none ∨ noRange a = true := hr.imp id fun h => by simp only [noRange, Bool.and_eq_true] at h; exact h.1
    have hrb : r = none ∨ noRange b = true := hr.imp id fun h => by simp only [noRange, Bool.and_eq_true] at h; exact h.2
    obtain ⟨t, ht, hbr⟩ := isB_ex h
    obtain ⟨h1, h2⟩ := br_iff.1 hbr
    refine wpIn_cond_split (t := t) (by rw [act_eval]; exact ht) (fun h => ?_) (fun h => ?_)
    · have h1' := h1 h
      rw [putO_same (by rw [ht, h])] at h1'
      refine wpIn_mono (iha hw.1 r n hn hra Q e w hD hQ hO hG h1') ?_
      rintro x ac w' ⟨e', rfl, hD', hf, hq⟩
      exact ⟨e', rfl, hD', hf.mono fun s hs => mem_uni (.inl hs), hq⟩
    · have h2' := h2 h
      rw [putO_same (by rw [ht, h])] at h2'
      refine wpIn_mono (ihb hw.2 r n hn hrb Q e w hD hQ hO hG h2') ?_
      rintro x ac w' ⟨e', rfl, hD', hf, hq⟩
      exact ⟨e', rfl, hD', hf.mono fun s hs => mem_uni (.inr hs), hq⟩
  | block id c ih =>
    intro hw r n hn hr Q e w hD hQ hO hG h
    refine wpIn_block (wpIn_mono (ih hw r n hn hr _ e w hD (by intro ch e w; exact hQ ch e w) (by intro e w; exact hO e w) (by intro t e w; exact hG t e w) h) ?_)
    rintro x ac w' ⟨e', rfl, hD', hf, hq⟩
    cases x with
    | exit id' =>
      simp only [Exit.inBlock]
      simp only at hq
      split at hq
      · rename_i hid; rw [if_pos (Nat.eq_of_beq_eq_true hid)]; exact ⟨e', rfl, hD', hf, hq⟩
      · rename_i hid; rw [if_neg (Nat.ne_of_beq_eq_false hid)]; exact ⟨e', rfl, hD', hf, hq⟩
    | _ => exact ⟨e', rfl, hD', hf, hq⟩
  | loop c ih =>
    intro hw r n hn hr Q e w hD hQ hO hG h
    obtain ⟨I, μ, h0, h1⟩ := h
    refine wpIn_loop (fun a w' => ∃ e', a = act N e' ∧ okD e' ∧ Fr (writes c) e e' ∧ I (alist (pairs (liveAt H c) e')) w') (fun a w' => μ (alist (pairs (liveAt H c) fun s => cond (mem s (writes c)) (cond (Nat.beq s dSlot) (encD (undf a.defers)) (a.tmps.getD s undef)) (e s))) w') ⟨e, rfl, hD, Fr.refl _ _, h0⟩ ?_
    have hp : ∀ e' : Env, okD e' → Fr (writes c) e e' → (fun s => cond (mem s (writes c)) (cond (Nat.beq s dSlot) (encD (undf (act N e').defers)) ((act N e').tmps.getD s undef)) (e s)) = e' := by
      intro e' hD' hf
      funext s
      cases hm : mem s (writes c) with
      | true =>
        simp only [cond_true]
        cases hb : Nat.beq s dSlot with
        | true => obtain rfl := Nat.eq_of_beq_eq_true hb; exact undf_act e' hD'
        | false =>
          rcases wOk_writes hN c hw s hm with h | rfl
          · rw [act_getD, h]; rfl
          · rw [Nat.beq_refl] at hb; cases hb
      | false => exact (hf s hm).symm
    rintro a w' ⟨e', rfl, hD', hf, hI⟩
    rw [hp e' hD' hf]
    have h2 := h1 e' w' (by rw [havoc_self hf]; exact hI)
    rw [havoc_self hf] at h2
    refine wpIn_mono (ih hw r n hn hr _ e' w' hD' (by intro ch e w; exact hQ ch e w) (by intro e w; exact hO e w) (by intro t e w; exact hG t e w) h2) ?_
    rintro x ac w'' ⟨e'', rfl, hD'', hf', hq⟩
    cases x with
    | normal => exact ⟨⟨e'', rfl, hD'', hf.trans hf', hq.1⟩, by rw [hp e'' hD'' (hf.trans hf')]; exact hq.2⟩
    | _ => exact ⟨e'', rfl, hD'', hf.trans hf', hq⟩
  | exit id => intro _ r n _ _ Q e w hD _ _ _ h; exact wpIn_exit ⟨e, rfl, hD, Fr.refl _ _, h⟩
  | ret => intro _ r n _ _ Q e w hD _ _ _ h; exact wpIn_ret ⟨e, rfl, hD, Fr.refl _ _, h⟩
  | rangeFunc f ps asg bd ihA ih =>
    intro hw r n hn hr Q e w hD hQ hO hG h
    obtain rfl : r = none := hr.elim id fun h => by cases h
    simp only [wOk, Bool.and_eq_true] at hw
    obtain ⟨hwp, hwa, hwb⟩ := hw
    have hps : ∀ p ∈ ps.toList, p < N := fun p hp => by have := List.all_eq_true.1 hwp p hp; rwa [Nat.blt_eq] at this
    simp only [code] at h
    obtain ⟨fn, first, captured, hf, ha⟩ := isFn_ex h
    clear h
    obtain ⟨_, hg1, hb⟩ := rd_ex ha
    clear ha
    have hg1' := gd_some hg1
    simp only [Bool.and_eq_true, List.isEmpty_iff] at hg1'
    obtain rfl : first = #[] := by apply Array.ext'; simpa using hg1'.1
    obtain ⟨g, hg, h⟩ := rd_ex hb
    clear hb
    obtain rfl : fn = .func g := by cases fn <;> simp [fnId] at hg; subst hg; rfl
    have hDD : ∀ (D : Nat) (W : World), act N (put e (some dSlot) (pushD D (e dSlot))) = { act N e with defers := { target := .collected D, args := #[] } :: (act N e).defers } := by
      intro D W
      have h1 : ∀ t, t < N → put e (some dSlot) (pushD D (e dSlot)) t = e t := fun t ht => by
        have : Nat.beq t dSlot = false := by
          cases hb : Nat.beq t dSlot with
          | false => rfl
          | true => have := Nat.eq_of_beq_eq_true hb; omega
        simp only [put, this, cond_false]
      simp only [act, Act.mk.injEq]
      refine ⟨?_, ?_⟩
      · congr 1
        exact List.map_congr_left fun t ht => h1 t (by simpa using ht)
      · simp only [put, Nat.beq_refl, cond_true, pushD, dfOf_encD, List.map_cons]
        rfl
    have hDok : ∀ D, okD (put e (some dSlot) (pushD D (e dSlot))) := fun D => ⟨D :: dfOf (e dSlot), by simp only [put, Nat.beq_refl, cond_true, pushD]⟩
    have hDfr : ∀ D, Fr (writes (.rangeFunc f ps asg bd)) e (put e (some dSlot) (pushD D (e dSlot))) := fun D => (Fr.refl _ _).put _ _ fun d hd => by cases hd; simp [writes, mem]
    have hstart : ∀ (enc : Nat → Value), ({ tmps := (ps.zip ((List.range ps.size).map enc).toArray).foldl (fun t (p, v) => t.setIfInBounds p v) (act N e).tmps, defers := [] } : Act) = act N (putP ps.toList 0 enc (put e (some dSlot) undef)) := by
      intro enc
      have h1 : (act N (put e (some dSlot) undef)).tmps = (act N e).tmps := by
        simp only [act]
        congr 1
        refine List.map_congr_left fun t ht => ?_
        have ht : t < N := by simpa using ht
        have : Nat.beq t dSlot = false := by
          cases hb : Nat.beq t dSlot with
          | false => rfl
          | true => have := Nat.eq_of_beq_eq_true hb; omega
        simp only [put, this, cond_false]
      have h2 := putP_tmps hN enc ps.toList 0 (put e (some dSlot) undef) hps
      have h3 : (act N (putP ps.toList 0 enc (put e (some dSlot) undef))).defers = [] := by
        simp only [act, putP_d hN _ _ _ _ hps, put, Nat.beq_refl, cond_true]
        rfl
      have ext : ∀ a b : Act, a.tmps = b.tmps → a.defers = b.defers → a = b := by
        rintro ⟨_, _⟩ ⟨_, _⟩ h h'
        cases h; cases h'; rfl
      refine ext _ _ ?_ h3.symm
      rw [h2, h1]
      simp only
      rw [← Array.foldl_toList]
      congr 1
      rw [Array.toList_zip, List.range_eq_range']
      simp
    split at h
    · rename_i hasg
      obtain ⟨hent, α, enc, Kp, S, Sp, M, I, Ix, hseq, hKt, hKb, hI, hIx, h0, hbody, hafter, hret, hexits⟩ := h
      have hseq' := seq_any (n := n - 1) hseq
      have key : ∀ x, ∃ e1, asgE N asg (putP ps.toList 0 (enc x) (put e (some dSlot) undef)) = some e1 := fun x =>
        Option.isSome_iff_exists.1 (asgE_some asg _ _ hasg)
      have he1 : ∀ x, asgE N asg (putP ps.toList 0 (enc x) (put e (some dSlot) undef)) = some (key x).choose := fun x => (key x).choose_spec
      have hd1 : ∀ x, okD (key x).choose := fun x => ⟨[], by
        rw [asgE_d hN _ _ _ (he1 x) hwa, putP_d hN _ _ _ _ hps]
        simp only [put, Nat.beq_refl, cond_true]
        rfl⟩
      refine wpIn_rangeFunc_ownG (n := n) rfl (hn rfl) (gf := g) (lb := captured) (by rw [act_eval]; exact hf) trivial (fun args w => ?_) (by simpa using hseq') (fun {A B C} => hKt A B C) hKb (Below.refl _ _) (by intro x; simp) I
        (fun c pre W => match c with | .ret => Ix .ret pre W | .exit id => ((exitsOf bd).any fun y => Nat.beq y id) = true ∧ Ix (.exit id) pre W | _ => False) hI ?_ h0 (fun x => act N (key x).choose) ?_ ?_ ?_ ?_
      · obtain ⟨fn, hfg, hng, hbg⟩ := hent
        simp only [callFunc, Sem.run_bind, run_program, Result.andThen_ok, hfg, hng, hbg, Bool.false_eq_true, if_false, Sem.run_pure]
      · intro c s W W' row hs hg hr
        cases c with
        | ret => exact hIx .ret s W W' row hs hg hr
        | exit id => exact ⟨hs.1, hIx (.exit id) s W W' row hs.2 hg hr⟩
        | _ => exact hs.elim
      · intro l x W K hK
        rw [hstart (enc x)]
        exact asgE_sound (r := some l) hN asg _ _ W _ (he1 x) hwa hK
      · intro l pre x W hi hl
        have hb := hbody pre x W hi hl
        dsimp only at hb
        rw [he1 x] at hb
        refine wpIn_mono (ih hwb (some l) (n - 1 - 1) (fun h => by cases h) (.inr hg1'.2) _ _ W (hd1 x) ?_ ?_ ?_ hb) ?_
        · intro ch e w h; exact h.2
        · intro e w h; exact h.2
        · intro t e w h; exact h.2
        · rintro y ac W' ⟨e', rfl, _, _, hq⟩
          cases y with
          | normal => exact hq
          | ret => exact hq
          | exit id => exact ⟨hq.1, by simpa [List.any_map, Function.comp_def] using hq.2⟩
          | _ => exact hq.2.elim
      · intro D xs W hD1 hS hI1 hK1
        rw [← hDD D W]
        exact ⟨_, rfl, hDok D, hDfr D, hafter D xs W hD1 hS hI1 hK1⟩
      · intro D c pre W hD1 hS hI1 hK1
        rw [← hDD D W]
        cases c with
        | ret => exact wpIn_ret ⟨_, rfl, hDok D, hDfr D, hret D pre W hD1 hS hI1 hK1⟩
        | exit id =>
          obtain ⟨hm1, hI2⟩ := hI1
          obtain ⟨y, hy, hyi⟩ := List.any_eq_true.1 hm1
          obtain rfl := Nat.eq_of_beq_eq_true hyi
          exact wpIn_exit ⟨_, rfl, hDok D, hDfr D, hexits (y, _) (List.mem_map.2 ⟨y, hy, rfl⟩) D pre W hD1 hS hI2 hK1⟩
        | _ => exact hI1.elim
    · obtain ⟨_, hg2, h⟩ := rd_ex h
      have hg2' := gd_some hg2
      obtain ⟨hent, α, enc, Kp, S, Sp, M, I, Ix, A, hseq, hKt, hKb, hI, hIx, hA, h0, hasg, hbody, hafter, hret, hexits⟩ := h
      have hseq' := seq_any (n := n - 1) hseq
      have hd1 : ∀ x, okD (putP ps.toList 0 (enc x) (put e (some dSlot) undef)) := fun x => ⟨[], by
        rw [putP_d hN _ _ _ _ hps]
        simp only [put, Nat.beq_refl, cond_true]
        rfl⟩
      refine wpIn_rangeFunc_ownH (n := n) rfl (hn rfl) (gf := g) (lb := captured) (by rw [act_eval]; exact hf) trivial (fun args w => ?_) (by simpa using hseq') (fun {A B C} => hKt A B C) hKb (Below.refl _ _) (by intro x; simp) I
        (fun c pre W => match c with | .ret => Ix .ret pre W | .exit id => ((exitsOf bd).any fun y => Nat.beq y id) = true ∧ Ix (.exit id) pre W | _ => False) hI ?_ h0
        (fun x a' W => ∃ e1, a' = act N e1 ∧ okD e1 ∧ Fr (writes asg) (putP ps.toList 0 (enc x) (put e (some dSlot) undef)) e1 ∧ A x (alist (pairs (liveAt H bd) e1)) W) ?_ ?_ ?_ ?_ ?_
      · obtain ⟨fn, hfg, hng, hbg⟩ := hent
        simp only [callFunc, Sem.run_bind, run_program, Result.andThen_ok, hfg, hng, hbg, Bool.false_eq_true, if_false, Sem.run_pure]
      · intro c s W W' row hs hg hr
        cases c with
        | ret => exact hIx .ret s W W' row hs hg hr
        | exit id => exact ⟨hs.1, hIx (.exit id) s W W' row hs.2 hg hr⟩
        | _ => exact hs.elim
      · rintro x a' s W W' row ⟨e1, h1, h2, h3, h4⟩ hg hr
        exact ⟨e1, h1, h2, h3, hA x _ () W W' row h4 hg hr⟩
      · intro l pre x W K hi hK
        rw [hstart (enc x)]
        refine wpIn_mono (ihA hwa (some l) (n - 1 - 1) (fun h => by cases h) (.inr hg2') _ _ W (hd1 x) (fun _ _ _ h => h) (fun _ _ h => h) (fun _ _ _ h => h) (hasg pre x W hi)) ?_
        rintro y ac W' ⟨e', rfl, hD', hf', hq⟩
        cases y with
        | normal => exact hK _ _ hq.1 hq.2.1 hq.2.2.1 ⟨e', rfl, hD', hf', hq.2.2.2⟩
        | _ => exact hq.elim
      · rintro l pre x _ W _ _ hi ⟨e1, rfl, hd1, hf1, hA1⟩ hl
        have hb := hbody pre x W hi hl e1
        dsimp only at hb
        rw [havoc_self hf1] at hb
        refine wpIn_mono (ih hwb (some l) (n - 1 - 1) (fun h => by cases h) (.inr hg1'.2) _ _ W hd1 ?_ ?_ ?_ (hb hA1)) ?_
        · intro ch e w h; exact h.2
        · intro e w h; exact h.2
        · intro t e w h; exact h.2
        · rintro y ac W' ⟨e', rfl, _, _, hq⟩
          cases y with
          | normal => exact hq
          | ret => exact hq
          | exit id => exact ⟨hq.1, by simpa [List.any_map, Function.comp_def] using hq.2⟩
          | _ => exact hq.2.elim
      · intro D xs W hD1 hS hI1 hK1
        rw [← hDD D W]
        exact ⟨_, rfl, hDok D, hDfr D, hafter D xs W hD1 hS hI1 hK1⟩
      · intro D c pre W hD1 hS hI1 hK1
        rw [← hDD D W]
        cases c with
        | ret => exact wpIn_ret ⟨_, rfl, hDok D, hDfr D, hret D pre W hD1 hS hI1 hK1⟩
        | exit id =>
          obtain ⟨hm1, hI2⟩ := hI1
          obtain ⟨y, hy, hyi⟩ := List.any_eq_true.1 hm1
          obtain rfl := Nat.eq_of_beq_eq_true hyi
          exact wpIn_exit ⟨_, rfl, hDok D, hDfr D, hexits (y, _) (List.mem_map.2 ⟨y, hy, rfl⟩) D pre W hD1 hS hI2 hK1⟩
        | _ => exact hI1.elim
  | scope b _ => intro _ r n _ _ Q e w _ _ _ _ h; exact h.elim
  | label l => intro _ r n _ _ Q e w _ _ _ _ h; exact h.elim
  | goto l => intro _ r n _ _ Q e w _ _ _ _ h; exact h.elim
  | refuse why => intro _ r n _ _ Q e w _ _ _ _ h; exact h.elim
theorem resV_run (rs : List ResultVar) (e : Env) (w : World) : ∀ (K : List Value → Prop), resV N rs e w P K → ∃ vs, (rs.mapM fun | .tmp t => pure ((act N e).tmps.getD t undef) | .cell a t => do loadVar t (← asAddr ((act N e).tmps.getD a undef)) : Sem (List Value)).run P w = .ok vs w ∧ K vs := by
  have hget : ∀ t, (act N e).tmps.getD t undef = (cond (Nat.blt t N) (e t) undef) := fun t => act_getD N e t
  induction rs with
  | nil => intro K h; exact ⟨[], by simp, h⟩
  | cons r rs ih =>
    intro K h
    cases r with
    | tmp t =>
      obtain ⟨vs, hvs, hK⟩ := ih _ h
      refine ⟨_, ?_, hK⟩
      simp only [hget] at hvs ⊢
      simp only [List.mapM_cons, Sem.run_bind, Sem.run_pure, Result.andThen_ok, hvs]
    | cell a t =>
      obtain ⟨ad, ha, h⟩ := isPtr_ex h
      obtain ⟨v, hv, h⟩ := loadC_run h
      obtain ⟨vs, hvs, hK⟩ := ih _ h
      refine ⟨_, ?_, hK⟩
      have hv' : (loadVar t ad).run P w = .ok v w := by simpa [Instr.loadAt, Instr.sureAddr] using hv
      simp only [hget] at hvs ⊢
      have hr : (asAddr (cond (Nat.blt a N) (e a) undef)).run P w = .ok ad w := by rw [ha]; rfl
      simp only [List.mapM_cons, Sem.run_bind, Sem.run_pure, Result.andThen_ok, hvs, hr, hv']
theorem leaves_of {F : Fence} {n : Nat} {fn : Func} {tmps : Array Value} {R : Ending → World → Prop} : ∀ (ds : List Nat) (w : World), (∀ d ∈ ds, w.heap[d]? = some (.deferred (some []))) → ds.Nodup →
    (∃ v, (results fn tmps).run P (turnD ds w) = .ok v (turnD ds w) ∧ R (.returned v) (turnD ds w)) → LeavesInM F n P fn tmps R (ds.map markD) .returning w := by
  intro ds
  induction ds with
  | nil => intro w _ _ h; exact h
  | cons d ds ih =>
    intro w hd hn h
    simp only [List.nodup_cons] at hn
    refine ⟨by simp, .inl ⟨d, _, rfl, run_takeDeferred (hd d (by simp)), ?_⟩⟩
    refine ih _ (fun d' hd' => ?_) hn.2 h
    rw [World.putObj_heap_other (k := d') (r := d) (by intro e; subst e; exact hn.1 hd')]
    exact hd d' (by simp [hd'])
theorem fn_sound (hm : P.follows .mixedOrders = true) (H : Hints) {f : FuncId} {F : Func} (hf : P.funcs[f]? = some F) {args : List Value} {w : World} {R : Value → World → Prop} (h : fn P H F args w R) :
    Calls P f args.toArray w fun e w' => ∃ v, e = .returned v ∧ R v w' := by
  obtain ⟨c, hc, h⟩ := rd_ex h
  obtain ⟨_, hg, h⟩ := rd_ex h
  have hg' := gd_some hg
  simp only [Bool.and_eq_true, Nat.ble_eq] at hg'
  obtain ⟨⟨hg1, hN⟩, hwk⟩ := hg'
  refine (callsIn_wide (n := 5)).1 (callsIn_of_wp_marks hf hc trivial ?_ rfl)
  have ha : ({ tmps := args.toArray ++ Array.replicate (F.ntmps - args.toArray.size) undef, defers := [] } : Act) = act F.ntmps (fun s => args.getD s undef) := by
    have hu : args.getD dSlot undef = undef := by
      rw [List.getD_eq_getElem?_getD, List.getElem?_eq_none (by omega)]; rfl
    simp only [act, hu, dfOf_undef, List.map_nil, Act.mk.injEq, and_true]
    apply Array.ext'
    simp only [Array.toList_append, Array.toList_replicate, List.size_toArray]
    refine List.ext_getElem? fun i => ?_
    by_cases hi : i < args.length
    · rw [List.getElem?_append_left (by simpa using hi)]
      simp only [List.getElem?_map]
      rw [List.getElem?_range (by omega)]
      simp [List.getD_eq_getElem?_getD, hi]
    · rw [List.getElem?_append_right (by simpa using hi)]
      by_cases hn : i < F.ntmps
      · simp only [List.getElem?_map]
        rw [List.getElem?_range hn, List.getElem?_replicate]
        rw [if_pos (by first | omega | (have : args.toArray.toList.length = args.length := rfl; omega))]
        simp only [Option.map_some, List.getD_eq_getElem?_getD, List.getElem?_eq_none (show args.length ≤ i by omega), Option.getD_none]
      · rw [List.getElem?_eq_none (by simp; omega), List.getElem?_eq_none (by simp; omega)]
  have hu : okD (fun s => args.getD s undef) := ⟨[], by
    show args.getD dSlot undef = _
    rw [List.getD_eq_getElem?_getD, List.getElem?_eq_none (by omega)]; rfl⟩
  rw [ha]
  refine wpIn_mono (code_sound hm H hN c hwk none 5 (fun _ => by omega) (.inl rfl) _ _ w hu (by intro ch e w h; exact h) (by intro e w h; exact h) (by intro t e w h; exact h) h) ?_
  have fin : ∀ (e : Env) (w : World), leaveC (e dSlot) w (fun w => resV F.ntmps F.results.toList e w P (fun vs => R (resK vs) w)) → LeavesInM Fence.wide 5 P F (act F.ntmps e).tmps (fun e w' => ∃ v, e = .returned v ∧ R v w') (act F.ntmps e).defers .returning w := by
    intro e w h
    have base : ∀ w, resV F.ntmps F.results.toList e w P (fun vs => R (resK vs) w) → ∃ v, (results F (act F.ntmps e).tmps).run P w = .ok v w ∧ ∃ u, Ending.returned v = .returned u ∧ R u w := by
      intro w h
      obtain ⟨vs, hvs, hK⟩ := resV_run _ _ _ _ h
      refine ⟨_, ?_, _, rfl, hK⟩
      unfold results
      rw [Array.mapM_eq_mapM_toList]
      simp only [Sem.run_bind, Sem.run_map]
      erw [hvs]
      simp only [Result.andThen_ok, Sem.run_pure]
      congr 1
      unfold resK
      match vs with
      | [] => rfl
      | [v] => rfl
      | a :: b :: r => simp
    unfold leaveC at h
    have hdf : (act F.ntmps e).defers = (dfOf (e dSlot)).map markD := rfl
    rw [hdf]
    split at h
    · rename_i hd0
      rw [hd0]
      exact leaves_of [] w (by simp) (by simp) (base w h)
    · rename_i D ds hd0
      rw [hd0]
      exact leaves_of (D :: ds) w h.1 h.2.1 (base _ h.2.2)
  rintro x ac w' ⟨e, rfl, _, _, hq⟩
  cases x with
  | normal => exact fin e w' hq
  | ret => exact fin e w' hq
  | _ => exact hq.elim
end
end Go.Proofs.YtipikchkbmgloaaGreatDoor.VC
namespace Go.Proofs.YtipikchkbmgloaaGreatDoor.VC
open Go Go.RowKit
theorem vc_of {P : Program} (hm : P.follows .mixedOrders = true) (H : Hints) {f : FuncId} {F : Func} (hf : P.funcs[f]? = some F) (he : Ent P f) {args : List Value} {w : World} {R : Value → World → Prop} {G : Prop}
    (hq : fn P H F args w R = G) (h : G) : callV P f args w R := ⟨he, fn_sound hm H hf (by rw [hq]; exact h)⟩
theorem callV.mono {P : Program} {f : FuncId} {args : List Value} {w : World} {R R' : Value → World → Prop} (h : callV P f args w R) (hr : ∀ v w', R v w' → R' v w') : callV P f args w R' :=
  ⟨h.1, h.2.mono fun _ _ ⟨v, e, r⟩ => ⟨v, e, hr _ _ r⟩⟩
def noHints : Hints := ⟨fun _ => false, fun _ => .done, fun _ => []⟩
end Go.Proofs.YtipikchkbmgloaaGreatDoor.VC
namespace Go.Proofs.YtipikchkbmgloaaGreatDoor
set_option linter.unusedSimpArgs false
set_option linter.unusedVariables false
open Go VC
theorem hm : Tryz.prog.follows .mixedOrders = true := by kernel_rfl
theorem row2 : row Tryz.prog 2 = ⟨.int .i64, 1, 8, some (.int .i64 0)⟩ := by kernel_rfl
theorem row3 : row Tryz.prog 3 = ⟨.int .i64, 1, 8, some (.int .i64 0)⟩ := by kernel_rfl
theorem row5 : row Tryz.prog 5 = ⟨.int .u8, 1, 1, some (.int .u8 0)⟩ := by kernel_rfl
theorem row9 : row Tryz.prog 9 = ⟨.string, 1, 16, some (.string ⟨#[]⟩)⟩ := by kernel_rfl
theorem row24 : row Tryz.prog 24 = ⟨.ptr 70, 1, 8, some (.pointer none)⟩ := by kernel_rfl
theorem row26 : row Tryz.prog 26 = ⟨.slice 24, 1, 24, some (.slice none 0 0)⟩ := by kernel_rfl
theorem row27 : row Tryz.prog 27 = ⟨.ptr 63, 1, 8, some (.pointer none)⟩ := by kernel_rfl
theorem row29 : row Tryz.prog 29 = ⟨.slice 27, 1, 24, some (.slice none 0 0)⟩ := by kernel_rfl
theorem row30 : row Tryz.prog 30 = ⟨.slice 51, 1, 24, some (.slice none 0 0)⟩ := by kernel_rfl
theorem row31 : row Tryz.prog 31 = ⟨.int .u32, 1, 4, some (.int .u32 0)⟩ := by kernel_rfl
theorem row32 : row Tryz.prog 32 = ⟨.int .u16, 1, 2, some (.int .u16 0)⟩ := by kernel_rfl
theorem row33 : row Tryz.prog 33 = ⟨.int .i8, 1, 1, some (.int .i8 0)⟩ := by kernel_rfl
theorem row35 : row Tryz.prog 35 = ⟨.struct [(0, 32), (1, 5), (2, 33), (3, 33), (4, 3)], 5, 16, some (.agg #[(.int .u16 0), (.int .u8 0), (.int .i8 0), (.int .i8 0), (.int .i64 0)])⟩ := by kernel_rfl
theorem row37 : row Tryz.prog 37 = ⟨.struct [(0, 2), (1, 2), (2, 2)], 3, 24, some (.agg #[(.int .i64 0), (.int .i64 0), (.int .i64 0)])⟩ := by kernel_rfl
theorem row38 : row Tryz.prog 38 = ⟨.int .i64, 1, 8, some (.int .i64 0)⟩ := by kernel_rfl
theorem row39 : row Tryz.prog 39 = ⟨.slice 5, 1, 24, some (.slice none 0 0)⟩ := by kernel_rfl
theorem row41 : row Tryz.prog 41 = ⟨.struct [(0, 3), (1, 32), (2, 35), (7, 32), (8, 3), (9, 3), (10, 37), (13, 38), (14, 37), (17, 37), (20, 31), (21, 31), (22, 39)], 23, 168, some (.agg #[(.int .i64 0), (.int .u16 0), (.int .u16 0), (.int .u8 0), (.int .i8 0), (.int .i8 0), (.int .i64 0), (.int .u16 0), (.int .i64 0), (.int .i64 0), (.int .i64 0), (.int .i64 0), (.int .i64 0), (.int .i64 0), (.int .i64 0), (.int .i64 0), (.int .i64 0), (.int .i64 0), (.int .i64 0), (.int .i64 0), (.int .u32 0), (.int .u32 0), (.slice none 0 0)])⟩ := by kernel_rfl
theorem row43 : row Tryz.prog 43 = ⟨.struct [(0, 3), (1, 3), (2, 41), (25, 31), (26, 39)], 27, 216, some (.agg #[(.int .i64 0), (.int .i64 0), (.int .i64 0), (.int .u16 0), (.int .u16 0), (.int .u8 0), (.int .i8 0), (.int .i8 0), (.int .i64 0), (.int .u16 0), (.int .i64 0), (.int .i64 0), (.int .i64 0), (.int .i64 0), (.int .i64 0), (.int .i64 0), (.int .i64 0), (.int .i64 0), (.int .i64 0), (.int .i64 0), (.int .i64 0), (.int .i64 0), (.int .u32 0), (.int .u32 0), (.slice none 0 0), (.int .u32 0), (.slice none 0 0)])⟩ := by kernel_rfl
theorem row45 : row Tryz.prog 45 = ⟨.slice 41, 1, 24, some (.slice none 0 0)⟩ := by kernel_rfl
theorem row51 : row Tryz.prog 51 = ⟨.slice 9, 1, 24, some (.slice none 0 0)⟩ := by kernel_rfl
theorem row59 : row Tryz.prog 59 = ⟨.slice 79, 1, 24, some (.slice none 0 0)⟩ := by kernel_rfl
theorem row60 : row Tryz.prog 60 = ⟨.slice 106, 1, 24, some (.slice none 0 0)⟩ := by kernel_rfl
theorem row65 : row Tryz.prog 65 = ⟨.slice 75, 1, 24, some (.slice none 0 0)⟩ := by kernel_rfl
theorem row66 : row Tryz.prog 66 = ⟨.slice 101, 1, 24, some (.slice none 0 0)⟩ := by kernel_rfl
theorem row71 : row Tryz.prog 71 = ⟨.slice 32, 1, 24, some (.slice none 0 0)⟩ := by kernel_rfl
theorem row75 : row Tryz.prog 75 = ⟨.ptr 77, 1, 8, some (.pointer none)⟩ := by kernel_rfl
theorem row79 : row Tryz.prog 79 = ⟨.struct [(0, 3), (1, 41)], 24, 176, some (.agg #[(.int .i64 0), (.int .i64 0), (.int .u16 0), (.int .u16 0), (.int .u8 0), (.int .i8 0), (.int .i8 0), (.int .i64 0), (.int .u16 0), (.int .i64 0), (.int .i64 0), (.int .i64 0), (.int .i64 0), (.int .i64 0), (.int .i64 0), (.int .i64 0), (.int .i64 0), (.int .i64 0), (.int .i64 0), (.int .i64 0), (.int .i64 0), (.int .u32 0), (.int .u32 0), (.slice none 0 0)])⟩ := by kernel_rfl
theorem row101 : row Tryz.prog 101 = ⟨.struct [(0, 32), (1, 31), (2, 65)], 3, 32, some (.agg #[(.int .u16 0), (.int .u32 0), (.slice none 0 0)])⟩ := by kernel_rfl
theorem row104 : row Tryz.prog 104 = ⟨.slice 3, 1, 24, some (.slice none 0 0)⟩ := by kernel_rfl
theorem row106 : row Tryz.prog 106 = ⟨.struct [(0, 32), (1, 31), (2, 104)], 3, 32, some (.agg #[(.int .u16 0), (.int .u32 0), (.slice none 0 0)])⟩ := by kernel_rfl
theorem row162 : row Tryz.prog 162 = ⟨.ptr 33, 1, 8, some (.pointer none)⟩ := by kernel_rfl
theorem row163 : row Tryz.prog 163 = ⟨.slice 162, 1, 24, some (.slice none 0 0)⟩ := by kernel_rfl
theorem row165 : row Tryz.prog 165 = ⟨.ptr 2, 1, 8, some (.pointer none)⟩ := by kernel_rfl
theorem row169 : row Tryz.prog 169 = ⟨.slice 165, 1, 24, some (.slice none 0 0)⟩ := by kernel_rfl
theorem ent3 : Ent Tryz.prog 3 := ⟨Tryz.f3, Tryz.func3, by kernel_rfl, by kernel_rfl⟩
theorem ent4 : Ent Tryz.prog 4 := ⟨Tryz.f4, Tryz.func4, by kernel_rfl, by kernel_rfl⟩
theorem ent5 : Ent Tryz.prog 5 := ⟨Tryz.f5, Tryz.func5, by kernel_rfl, by kernel_rfl⟩
theorem ent6 : Ent Tryz.prog 6 := ⟨Tryz.f6, Tryz.func6, by kernel_rfl, by kernel_rfl⟩
theorem ent7 : Ent Tryz.prog 7 := ⟨Tryz.f7, Tryz.func7, by kernel_rfl, by kernel_rfl⟩
theorem ent8 : Ent Tryz.prog 8 := ⟨Tryz.f8, Tryz.func8, by kernel_rfl, by kernel_rfl⟩
theorem ent9 : Ent Tryz.prog 9 := ⟨Tryz.f9, Tryz.func9, by kernel_rfl, by kernel_rfl⟩
theorem ent10 : Ent Tryz.prog 10 := ⟨Tryz.f10, Tryz.func10, by kernel_rfl, by kernel_rfl⟩
theorem ent11 : Ent Tryz.prog 11 := ⟨Tryz.f11, Tryz.func11, by kernel_rfl, by kernel_rfl⟩
theorem ent12 : Ent Tryz.prog 12 := ⟨Tryz.f12, Tryz.func12, by kernel_rfl, by kernel_rfl⟩
theorem ent13 : Ent Tryz.prog 13 := ⟨Tryz.f13, Tryz.func13, by kernel_rfl, by kernel_rfl⟩
theorem ent14 : Ent Tryz.prog 14 := ⟨Tryz.f14, Tryz.func14, by kernel_rfl, by kernel_rfl⟩
theorem ent15 : Ent Tryz.prog 15 := ⟨Tryz.f15, Tryz.func15, by kernel_rfl, by kernel_rfl⟩
theorem ent16 : Ent Tryz.prog 16 := ⟨Tryz.f16, Tryz.func16, by kernel_rfl, by kernel_rfl⟩
theorem ent17 : Ent Tryz.prog 17 := ⟨Tryz.f17, Tryz.func17, by kernel_rfl, by kernel_rfl⟩
theorem ent18 : Ent Tryz.prog 18 := ⟨Tryz.f18, Tryz.func18, by kernel_rfl, by kernel_rfl⟩
theorem ent19 : Ent Tryz.prog 19 := ⟨Tryz.f19, Tryz.func19, by kernel_rfl, by kernel_rfl⟩
theorem ent20 : Ent Tryz.prog 20 := ⟨Tryz.f20, Tryz.func20, by kernel_rfl, by kernel_rfl⟩
theorem ent21 : Ent Tryz.prog 21 := ⟨Tryz.f21, Tryz.func21, by kernel_rfl, by kernel_rfl⟩
theorem ent22 : Ent Tryz.prog 22 := ⟨Tryz.f22, Tryz.func22, by kernel_rfl, by kernel_rfl⟩
theorem ent23 : Ent Tryz.prog 23 := ⟨Tryz.f23, Tryz.func23, by kernel_rfl, by kernel_rfl⟩
theorem ent24 : Ent Tryz.prog 24 := ⟨Tryz.f24, Tryz.func24, by kernel_rfl, by kernel_rfl⟩
theorem ent25 : Ent Tryz.prog 25 := ⟨Tryz.f25, Tryz.func25, by kernel_rfl, by kernel_rfl⟩
theorem ent26 : Ent Tryz.prog 26 := ⟨Tryz.f26, Tryz.func26, by kernel_rfl, by kernel_rfl⟩
theorem ent27 : Ent Tryz.prog 27 := ⟨Tryz.f27, Tryz.func27, by kernel_rfl, by kernel_rfl⟩
theorem ent28 : Ent Tryz.prog 28 := ⟨Tryz.f28, Tryz.func28, by kernel_rfl, by kernel_rfl⟩
theorem ent29 : Ent Tryz.prog 29 := ⟨Tryz.f29, Tryz.func29, by kernel_rfl, by kernel_rfl⟩
theorem ent30 : Ent Tryz.prog 30 := ⟨Tryz.f30, Tryz.func30, by kernel_rfl, by kernel_rfl⟩
theorem ent31 : Ent Tryz.prog 31 := ⟨Tryz.f31, Tryz.func31, by kernel_rfl, by kernel_rfl⟩
theorem ent32 : Ent Tryz.prog 32 := ⟨Tryz.f32, Tryz.func32, by kernel_rfl, by kernel_rfl⟩
theorem ent33 : Ent Tryz.prog 33 := ⟨Tryz.f33, Tryz.func33, by kernel_rfl, by kernel_rfl⟩
theorem ent34 : Ent Tryz.prog 34 := ⟨Tryz.f34, Tryz.func34, by kernel_rfl, by kernel_rfl⟩
theorem ent35 : Ent Tryz.prog 35 := ⟨Tryz.f35, Tryz.func35, by kernel_rfl, by kernel_rfl⟩
theorem ent36 : Ent Tryz.prog 36 := ⟨Tryz.f36, Tryz.func36, by kernel_rfl, by kernel_rfl⟩
theorem ent37 : Ent Tryz.prog 37 := ⟨Tryz.f37, Tryz.func37, by kernel_rfl, by kernel_rfl⟩
theorem ent38 : Ent Tryz.prog 38 := ⟨Tryz.f38, Tryz.func38, by kernel_rfl, by kernel_rfl⟩
theorem ent39 : Ent Tryz.prog 39 := ⟨Tryz.f39, Tryz.func39, by kernel_rfl, by kernel_rfl⟩
theorem ent40 : Ent Tryz.prog 40 := ⟨Tryz.f40, Tryz.func40, by kernel_rfl, by kernel_rfl⟩
theorem ent41 : Ent Tryz.prog 41 := ⟨Tryz.f41, Tryz.func41, by kernel_rfl, by kernel_rfl⟩
theorem ent42 : Ent Tryz.prog 42 := ⟨Tryz.f42, Tryz.func42, by kernel_rfl, by kernel_rfl⟩
theorem ent43 : Ent Tryz.prog 43 := ⟨Tryz.f43, Tryz.func43, by kernel_rfl, by kernel_rfl⟩
theorem ent44 : Ent Tryz.prog 44 := ⟨Tryz.f44, Tryz.func44, by kernel_rfl, by kernel_rfl⟩
theorem ent45 : Ent Tryz.prog 45 := ⟨Tryz.f45, Tryz.func45, by kernel_rfl, by kernel_rfl⟩
theorem ent46 : Ent Tryz.prog 46 := ⟨Tryz.f46, Tryz.func46, by kernel_rfl, by kernel_rfl⟩
theorem ent47 : Ent Tryz.prog 47 := ⟨Tryz.f47, Tryz.func47, by kernel_rfl, by kernel_rfl⟩
theorem ent48 : Ent Tryz.prog 48 := ⟨Tryz.f48, Tryz.func48, by kernel_rfl, by kernel_rfl⟩
theorem ent49 : Ent Tryz.prog 49 := ⟨Tryz.f49, Tryz.func49, by kernel_rfl, by kernel_rfl⟩
theorem ent50 : Ent Tryz.prog 50 := ⟨Tryz.f50, Tryz.func50, by kernel_rfl, by kernel_rfl⟩
theorem ent51 : Ent Tryz.prog 51 := ⟨Tryz.f51, Tryz.func51, by kernel_rfl, by kernel_rfl⟩
theorem ent52 : Ent Tryz.prog 52 := ⟨Tryz.f52, Tryz.func52, by kernel_rfl, by kernel_rfl⟩
theorem ent53 : Ent Tryz.prog 53 := ⟨Tryz.f53, Tryz.func53, by kernel_rfl, by kernel_rfl⟩
theorem ent54 : Ent Tryz.prog 54 := ⟨Tryz.f54, Tryz.func54, by kernel_rfl, by kernel_rfl⟩
theorem ent55 : Ent Tryz.prog 55 := ⟨Tryz.f55, Tryz.func55, by kernel_rfl, by kernel_rfl⟩
theorem ent56 : Ent Tryz.prog 56 := ⟨Tryz.f56, Tryz.func56, by kernel_rfl, by kernel_rfl⟩
theorem ent57 : Ent Tryz.prog 57 := ⟨Tryz.f57, Tryz.func57, by kernel_rfl, by kernel_rfl⟩
theorem ent58 : Ent Tryz.prog 58 := ⟨Tryz.f58, Tryz.func58, by kernel_rfl, by kernel_rfl⟩
theorem ent59 : Ent Tryz.prog 59 := ⟨Tryz.f59, Tryz.func59, by kernel_rfl, by kernel_rfl⟩
theorem ent60 : Ent Tryz.prog 60 := ⟨Tryz.f60, Tryz.func60, by kernel_rfl, by kernel_rfl⟩
theorem ent61 : Ent Tryz.prog 61 := ⟨Tryz.f61, Tryz.func61, by kernel_rfl, by kernel_rfl⟩
theorem ent62 : Ent Tryz.prog 62 := ⟨Tryz.f62, Tryz.func62, by kernel_rfl, by kernel_rfl⟩
theorem ent63 : Ent Tryz.prog 63 := ⟨Tryz.f63, Tryz.func63, by kernel_rfl, by kernel_rfl⟩
theorem ent64 : Ent Tryz.prog 64 := ⟨Tryz.f64, Tryz.func64, by kernel_rfl, by kernel_rfl⟩
theorem ent65 : Ent Tryz.prog 65 := ⟨Tryz.f65, Tryz.func65, by kernel_rfl, by kernel_rfl⟩
theorem ent66 : Ent Tryz.prog 66 := ⟨Tryz.f66, Tryz.func66, by kernel_rfl, by kernel_rfl⟩
theorem ent67 : Ent Tryz.prog 67 := ⟨Tryz.f67, Tryz.func67, by kernel_rfl, by kernel_rfl⟩
theorem ent68 : Ent Tryz.prog 68 := ⟨Tryz.f68, Tryz.func68, by kernel_rfl, by kernel_rfl⟩
theorem ent69 : Ent Tryz.prog 69 := ⟨Tryz.f69, Tryz.func69, by kernel_rfl, by kernel_rfl⟩
theorem ent70 : Ent Tryz.prog 70 := ⟨Tryz.f70, Tryz.func70, by kernel_rfl, by kernel_rfl⟩
theorem ent71 : Ent Tryz.prog 71 := ⟨Tryz.f71, Tryz.func71, by kernel_rfl, by kernel_rfl⟩
theorem ent72 : Ent Tryz.prog 72 := ⟨Tryz.f72, Tryz.func72, by kernel_rfl, by kernel_rfl⟩
theorem ent73 : Ent Tryz.prog 73 := ⟨Tryz.f73, Tryz.func73, by kernel_rfl, by kernel_rfl⟩
theorem ent74 : Ent Tryz.prog 74 := ⟨Tryz.f74, Tryz.func74, by kernel_rfl, by kernel_rfl⟩
theorem ent75 : Ent Tryz.prog 75 := ⟨Tryz.f75, Tryz.func75, by kernel_rfl, by kernel_rfl⟩
theorem ent76 : Ent Tryz.prog 76 := ⟨Tryz.f76, Tryz.func76, by kernel_rfl, by kernel_rfl⟩
theorem ent77 : Ent Tryz.prog 77 := ⟨Tryz.f77, Tryz.func77, by kernel_rfl, by kernel_rfl⟩
theorem ent78 : Ent Tryz.prog 78 := ⟨Tryz.f78, Tryz.func78, by kernel_rfl, by kernel_rfl⟩
theorem ent79 : Ent Tryz.prog 79 := ⟨Tryz.f79, Tryz.func79, by kernel_rfl, by kernel_rfl⟩
theorem ent80 : Ent Tryz.prog 80 := ⟨Tryz.f80, Tryz.func80, by kernel_rfl, by kernel_rfl⟩
theorem ent81 : Ent Tryz.prog 81 := ⟨Tryz.f81, Tryz.func81, by kernel_rfl, by kernel_rfl⟩
theorem ent82 : Ent Tryz.prog 82 := ⟨Tryz.f82, Tryz.func82, by kernel_rfl, by kernel_rfl⟩
theorem ent83 : Ent Tryz.prog 83 := ⟨Tryz.f83, Tryz.func83, by kernel_rfl, by kernel_rfl⟩
theorem ent84 : Ent Tryz.prog 84 := ⟨Tryz.f84, Tryz.func84, by kernel_rfl, by kernel_rfl⟩
theorem ent85 : Ent Tryz.prog 85 := ⟨Tryz.f85, Tryz.func85, by kernel_rfl, by kernel_rfl⟩
theorem ent86 : Ent Tryz.prog 86 := ⟨Tryz.f86, Tryz.func86, by kernel_rfl, by kernel_rfl⟩
theorem ent87 : Ent Tryz.prog 87 := ⟨Tryz.f87, Tryz.func87, by kernel_rfl, by kernel_rfl⟩
theorem ent88 : Ent Tryz.prog 88 := ⟨Tryz.f88, Tryz.func88, by kernel_rfl, by kernel_rfl⟩
theorem ent89 : Ent Tryz.prog 89 := ⟨Tryz.f89, Tryz.func89, by kernel_rfl, by kernel_rfl⟩
theorem ent90 : Ent Tryz.prog 90 := ⟨Tryz.f90, Tryz.func90, by kernel_rfl, by kernel_rfl⟩
theorem ent91 : Ent Tryz.prog 91 := ⟨Tryz.f91, Tryz.func91, by kernel_rfl, by kernel_rfl⟩
theorem ent92 : Ent Tryz.prog 92 := ⟨Tryz.f92, Tryz.func92, by kernel_rfl, by kernel_rfl⟩
theorem ent93 : Ent Tryz.prog 93 := ⟨Tryz.f93, Tryz.func93, by kernel_rfl, by kernel_rfl⟩
theorem ent94 : Ent Tryz.prog 94 := ⟨Tryz.f94, Tryz.func94, by kernel_rfl, by kernel_rfl⟩
theorem ent95 : Ent Tryz.prog 95 := ⟨Tryz.f95, Tryz.func95, by kernel_rfl, by kernel_rfl⟩
theorem ent96 : Ent Tryz.prog 96 := ⟨Tryz.f96, Tryz.func96, by kernel_rfl, by kernel_rfl⟩
theorem ent97 : Ent Tryz.prog 97 := ⟨Tryz.f97, Tryz.func97, by kernel_rfl, by kernel_rfl⟩
theorem ent98 : Ent Tryz.prog 98 := ⟨Tryz.f98, Tryz.func98, by kernel_rfl, by kernel_rfl⟩
theorem ent115 : Ent Tryz.prog 115 := ⟨Tryz.f115, Tryz.func115, by kernel_rfl, by kernel_rfl⟩
theorem ent116 : Ent Tryz.prog 116 := ⟨Tryz.f116, Tryz.func116, by kernel_rfl, by kernel_rfl⟩
theorem ent117 : Ent Tryz.prog 117 := ⟨Tryz.f117, Tryz.func117, by kernel_rfl, by kernel_rfl⟩
theorem ent118 : Ent Tryz.prog 118 := ⟨Tryz.f118, Tryz.func118, by kernel_rfl, by kernel_rfl⟩
theorem ent119 : Ent Tryz.prog 119 := ⟨Tryz.f119, Tryz.func119, by kernel_rfl, by kernel_rfl⟩
theorem ent120 : Ent Tryz.prog 120 := ⟨Tryz.f120, Tryz.func120, by kernel_rfl, by kernel_rfl⟩
theorem ent121 : Ent Tryz.prog 121 := ⟨Tryz.f121, Tryz.func121, by kernel_rfl, by kernel_rfl⟩
theorem ent122 : Ent Tryz.prog 122 := ⟨Tryz.f122, Tryz.func122, by kernel_rfl, by kernel_rfl⟩
theorem ent123 : Ent Tryz.prog 123 := ⟨Tryz.f123, Tryz.func123, by kernel_rfl, by kernel_rfl⟩
theorem ent124 : Ent Tryz.prog 124 := ⟨Tryz.f124, Tryz.func124, by kernel_rfl, by kernel_rfl⟩
end Go.Proofs.YtipikchkbmgloaaGreatDoor
namespace Go.Proofs.YtipikchkbmgloaaGreatDoor
set_option linter.unusedSimpArgs false
set_option linter.unusedVariables false
open Go VC
theorem vc71 (a : Addr) (b : Int) (c : Int) (w : World) (R : Value → World → Prop)
 (h : allocC w (Obj.cells #[Value.pointer (some a)] (141 : Nat)) fun n0 w1 => callV Tryz.prog (83 : Nat) [Value.int IntKind.i64 c] w1 fun v2 w3 => isK IntKind.i64 v2 fun i4 => callV Tryz.prog (82 : Nat) [Value.int IntKind.u64 b, Value.int IntKind.i64 i4] w3 fun v5 w6 => isFn v5 fun f7 l8 l9 => rd (gd (List.isEmpty l8 && true)) fun _x => rd (fnId f7) fun n10 => rangeC Tryz.prog n10 l9 (1 : Nat) w6 (fun u11 w12 u13 => cutC (fun u14 => rd (World.cell? w12 { block := n0, off := (0 : Nat) : Addr }) fun v15 => isP v15 fun o16 => rd (nilChk (Value.pointer o16)) fun v17 => isPtr v17 fun a18 => rd (World.cell? w12 (Addr.add a18 (1 : Nat))) fun v19 => isK IntKind.i64 v19 fun i20 => br (decide (Int.tmod i20 (8 : Int) = (0 : Int))) (heldC (World.drew w12) fun u21 => rd (World.cell? (World.drew w12) { block := n0, off := (0 : Nat) : Addr }) fun v22 => (∀ (w23 : World), u21 w23 → rd (World.cell? w23 { block := n0, off := (0 : Nat) : Addr }) fun v25 => v25 = v22 ∧ w23 = w23) ∧ isP v22 fun o26 => rd (World.cell? (World.drew w12) { block := n0, off := (0 : Nat) : Addr }) fun v27 => (∀ (w28 : World), u21 w28 → rd (World.cell? w28 { block := n0, off := (0 : Nat) : Addr }) fun v30 => v30 = v27 ∧ w28 = w28) ∧ isP v27 fun o31 => rd (nilChk (Value.pointer o31)) fun v32 => (∀ (w33 : World), u21 w33 → rd (nilChk (Value.pointer o31)) fun v35 => v35 = v32 ∧ w33 = w33) ∧ isPtr v32 fun a36 => (∀ (w37 : World), u21 w37 → isPtr v32 fun a39 => Value.pointer (some a39) = Value.pointer (some a36) ∧ w37 = w37) ∧ rd (World.cell? (World.drew w12) a36) fun v40 => (∀ (w41 : World), u21 w41 → rd (World.cell? w41 a36) fun v43 => v43 = v40 ∧ w41 = w41) ∧ isSl v40 fun o44 n45 n46 => runs Tryz.prog (Instr.buildSlice (39 : Nat) (1 : Nat) #[((0 : Nat), Value.int IntKind.u8 (0 : Int))]) (World.drew w12) fun v47 w48 => isSl v47 fun o49 n50 n51 => u21 w48 ∧ runs Tryz.prog (Builtin.append_ #[(39 : Nat), (39 : Nat)] (39 : Nat) #[Value.slice o44 n45 n46, Value.slice o49 n50 n51]) w48 fun v52 w53 => isSl v52 fun o54 n55 n56 => u21 w53 ∧ rd (nilChk (Value.pointer o26)) fun v57 => isPtr v57 fun a58 => stC w53 a58 [Value.slice o54 n55 n56] fun w59 => u14 (alist []) w59) (u14 (alist []) w12)) fun u60 => ∀ (u61 : Nat → Value) (w62 : World), u60 (alist []) w62 → heldC (World.drew w62) fun u64 => rd (World.cell? (World.drew w62) { block := n0, off := (0 : Nat) : Addr }) fun v65 => (∀ (w66 : World), u64 w66 → rd (World.cell? w66 { block := n0, off := (0 : Nat) : Addr }) fun v68 => v68 = v65 ∧ w66 = w66) ∧ isP v65 fun o69 => rd (nilChk (Value.pointer o69)) fun v70 => (∀ (w71 : World), u64 w71 → rd (nilChk (Value.pointer o69)) fun v73 => v73 = v70 ∧ w71 = w71) ∧ isPtr v70 fun a74 => (∀ (w75 : World), u64 w75 → isPtr v70 fun a77 => Value.pointer (some a77) = Value.pointer (some a74) ∧ w75 = w75) ∧ rd (World.cell? (World.drew w62) a74) fun v78 => (∀ (w79 : World), u64 w79 → rd (World.cell? w79 a74) fun v81 => v81 = v78 ∧ w79 = w79) ∧ isSl v78 fun o82 n83 n84 => rd (World.cell? (World.drew w62) { block := n0, off := (0 : Nat) : Addr }) fun v85 => (∀ (w86 : World), u64 w86 → rd (World.cell? w86 { block := n0, off := (0 : Nat) : Addr }) fun v88 => v88 = v85 ∧ w86 = w86) ∧ isP v85 fun o89 => rd (nilChk (Value.pointer o89)) fun v90 => (∀ (w91 : World), u64 w91 → rd (nilChk (Value.pointer o89)) fun v93 => v93 = v90 ∧ w91 = w91) ∧ isPtr v90 fun a94 => (∀ (w95 : World), u64 w95 → isPtr v90 fun a97 => Value.pointer (some (Addr.add a97 (1 : Nat))) = Value.pointer (some (Addr.add a94 (1 : Nat))) ∧ w95 = w95) ∧ rd (World.cell? (World.drew w62) (Addr.add a94 (1 : Nat))) fun v98 => (∀ (w99 : World), u64 w99 → rd (World.cell? w99 (Addr.add a94 (1 : Nat))) fun v101 => v101 = v98 ∧ w99 = w99) ∧ isK IntKind.i64 v98 fun i102 => (∀ (w103 : World), u64 w103 → Value.int IntKind.i64 (IntKind.wrap IntKind.i64 (Int.tdiv i102 (8 : Int))) = Value.int IntKind.i64 (IntKind.wrap IntKind.i64 (Int.tdiv i102 (8 : Int))) ∧ w103 = w103) ∧ rd o82 fun a105 => ((0 : Int) ≤ IntKind.wrap IntKind.i64 (Int.tdiv i102 (8 : Int)) ∧ IntKind.wrap IntKind.i64 (Int.tdiv i102 (8 : Int)) < (↑n83 : Int)) ∧ (∀ (w106 : World), u64 w106 → rd o82 fun a108 => ((0 : Int) ≤ IntKind.wrap IntKind.i64 (Int.tdiv i102 (8 : Int)) ∧ IntKind.wrap IntKind.i64 (Int.tdiv i102 (8 : Int)) < (↑n83 : Int)) ∧ Value.pointer (some (Addr.add a108 (Int.toNat (IntKind.wrap IntKind.i64 (Int.tdiv i102 (8 : Int))) * (1 : Nat)))) = Value.pointer (some (Addr.add a105 (Int.toNat (IntKind.wrap IntKind.i64 (Int.tdiv i102 (8 : Int))) * (1 : Nat)))) ∧ w106 = w106) ∧ rd (World.cell? (World.drew w62) (Addr.add a105 (Int.toNat (IntKind.wrap IntKind.i64 (Int.tdiv i102 (8 : Int))) * (1 : Nat)))) fun v109 => (∀ (w110 : World), u64 w110 → rd (World.cell? w110 (Addr.add a105 (Int.toNat (IntKind.wrap IntKind.i64 (Int.tdiv i102 (8 : Int))) * (1 : Nat)))) fun v112 => v112 = v109 ∧ w110 = w110) ∧ isK IntKind.u8 v109 fun i113 => (∀ (w114 : World), u64 w114 → u11 (0 : Nat) = u11 (0 : Nat) ∧ w114 = w114) ∧ isK IntKind.u8 (u11 (0 : Nat)) fun i116 => rd (World.cell? (World.drew w62) { block := n0, off := (0 : Nat) : Addr }) fun v117 => (∀ (w118 : World), u64 w118 → rd (World.cell? w118 { block := n0, off := (0 : Nat) : Addr }) fun v120 => v120 = v117 ∧ w118 = w118) ∧ isP v117 fun o121 => rd (nilChk (Value.pointer o121)) fun v122 => (∀ (w123 : World), u64 w123 → rd (nilChk (Value.pointer o121)) fun v125 => v125 = v122 ∧ w123 = w123) ∧ isPtr v122 fun a126 => (∀ (w127 : World), u64 w127 → isPtr v122 fun a129 => Value.pointer (some (Addr.add a129 (1 : Nat))) = Value.pointer (some (Addr.add a126 (1 : Nat))) ∧ w127 = w127) ∧ rd (World.cell? (World.drew w62) (Addr.add a126 (1 : Nat))) fun v130 => (∀ (w131 : World), u64 w131 → rd (World.cell? w131 (Addr.add a126 (1 : Nat))) fun v133 => v133 = v130 ∧ w131 = w131) ∧ isK IntKind.i64 v130 fun i134 => (∀ (w135 : World), u64 w135 → Value.int IntKind.i64 (Int.tmod i134 (8 : Int)) = Value.int IntKind.i64 (Int.tmod i134 (8 : Int)) ∧ w135 = w135) ∧ (∀ (w137 : World), u64 w137 → Value.int IntKind.i64 (IntKind.wrap IntKind.i64 ((7 : Int) - Int.tmod i134 (8 : Int))) = Value.int IntKind.i64 (IntKind.wrap IntKind.i64 ((7 : Int) - Int.tmod i134 (8 : Int))) ∧ w137 = w137) ∧ rd (orO (binV BinOp.shl (Value.int IntKind.u8 i116) (Value.int IntKind.i64 (IntKind.wrap IntKind.i64 ((7 : Int) - Int.tmod i134 (8 : Int))))) none) fun v139 => (∀ (w140 : World), u64 w140 → rd (orO (binV BinOp.shl (Value.int IntKind.u8 i116) (Value.int IntKind.i64 (IntKind.wrap IntKind.i64 ((7 : Int) - Int.tmod i134 (8 : Int))))) none) fun v142 => v142 = v139 ∧ w140 = w140) ∧ isK IntKind.u8 v139 fun i143 => (∀ (w144 : World), u64 w144 → Value.int IntKind.u8 (orI IntKind.u8 i113 i143) = Value.int IntKind.u8 (orI IntKind.u8 i113 i143) ∧ w144 = w144) ∧ rd o82 fun a146 => ((0 : Int) ≤ IntKind.wrap IntKind.i64 (Int.tdiv i102 (8 : Int)) ∧ IntKind.wrap IntKind.i64 (Int.tdiv i102 (8 : Int)) < (↑n83 : Int)) ∧ stC (World.drew w62) (Addr.add a146 (Int.toNat (IntKind.wrap IntKind.i64 (Int.tdiv i102 (8 : Int))) * (1 : Nat))) [Value.int IntKind.u8 (orI IntKind.u8 i113 i143)] fun w147 => rd (World.cell? w147 { block := n0, off := (0 : Nat) : Addr }) fun v148 => isP v148 fun o149 => rd (nilChk (Value.pointer o149)) fun v150 => isPtr v150 fun a151 => rd (World.cell? w147 (Addr.add a151 (1 : Nat))) fun v152 => isK IntKind.i64 v152 fun i153 => rd (nilChk (Value.pointer o149)) fun v154 => isPtr v154 fun a155 => stC w147 (Addr.add a155 (1 : Nat)) [Value.int IntKind.i64 (IntKind.wrap IntKind.i64 (i153 + (1 : Int)))] fun w156 => u13 Exit.normal w156) (fun n157 w158 => leaveC (Value.tuple #[Value.pointer (some { block := n157, off := (0 : Nat) : Addr })]) w158 fun w159 => R (Value.tuple #[]) w159) (fun n160 w161 => leaveC (Value.tuple #[Value.pointer (some { block := n160, off := (0 : Nat) : Addr })]) w161 fun w162 => R (Value.tuple #[]) w162) []) :
 callV Tryz.prog 71 [Value.pointer (some a), Value.int IntKind.u64 b, Value.int IntKind.i64 c] w R :=
 vc_of hm ⟨fun n => match n with | 5 => true | _ => false, fun n => match n with | 4 => .take 0 (.take 1 (.take 2 (.take 3 (.take 4 (.one 5 (.one 6 (.last 7 (.last 8 (.last 9 (.done)))))))))) | 5 => .take 0 (.take 1 (.take 2 (.take 3 (.take 4 (.take 5 (.take 6 (.take 7 (.take 8 (.take 9 (.take 10 (.take 11 (.take 12 (.take 13 (.take 14 (.take 15 (.take 16 (.take 17 (.take 18 (.take 19 (.last 20 (.last 21 (.done)))))))))))))))))))))) | _ => .done, fun n => match n with | 3 => [6] | 5 => [] | _ => []⟩ Tryz.func71 ent71 (by kernel_rfl) h
theorem vc22 (a : Addr) (w : World) (R : Value → World → Prop)
 (h : rd (World.cell? w a) fun v0 => isSl v0 fun o1 n2 n3 => callV Tryz.prog (18 : Nat) [Value.slice o1 n2 n3] w fun v4 w5 => isSl v4 fun o6 n7 n8 => R (Value.slice o6 n7 n8) w5) :
 callV Tryz.prog 22 [Value.pointer (some a)] w R :=
 vc_of hm noHints Tryz.func22 ent22 (by kernel_rfl) h
theorem vc21 (ap : Option Addr) (an : Nat) (ac : Nat) (w : World) (R : Value → World → Prop)
 (h : callV Tryz.prog (18 : Nat) [Value.slice ap an ac] w fun v0 w1 => isSl v0 fun o2 n3 n4 => allocC w1 (Obj.cells #[Value.slice o2 n3 n4, Value.int IntKind.i64 (0 : Int)] (140 : Nat)) fun n5 w6 => R (Value.pointer (some { block := n5, off := (0 : Nat) : Addr })) w6) :
 callV Tryz.prog 21 [Value.slice ap an ac] w R :=
 vc_of hm noHints Tryz.func21 ent21 (by kernel_rfl) h
theorem vc47 (a : Value) (b : Addr) (c : Int) (w : World) (R : Value → World → Prop)
 (h : rd (World.cell? w b) fun v0 => isK IntKind.i64 v0 fun i1 => allocC w (Obj.cells #[Value.int IntKind.u64 (0 : Int)] (166 : Nat)) fun n2 w3 => stC w3 { block := n2, off := (0 : Nat) : Addr } [Value.int IntKind.u64 (IntKind.wrap IntKind.u64 i1)] fun w4 => isIf a fun n5 v6 => methV Tryz.prog n5 v6 "embrasure/message.whole" w4 fun n7 v8 => callV Tryz.prog n7 [v8, Value.pointer (some { block := n2, off := (0 : Nat) : Addr }), Value.int IntKind.i64 c] w4 fun v9 w10 => rd (World.cell? w10 { block := n2, off := (0 : Nat) : Addr }) fun v11 => isK IntKind.u64 v11 fun i12 => stC w10 b [Value.int IntKind.i64 (IntKind.wrap IntKind.i64 i12)] fun w13 => R (Value.tuple #[]) w13) :
 callV Tryz.prog 47 [a, Value.pointer (some b), Value.int IntKind.i64 c] w R :=
 vc_of hm noHints Tryz.func47 ent47 (by kernel_rfl) h
theorem vc75 (a : Addr) (b : Bool) (w : World) (R : Value → World → Prop)
 (h : callV Tryz.prog (87 : Nat) [Value.pointer (some a), Value.bool b, Value.int IntKind.i64 (3 : Int)] w fun v0 w1 => R (Value.tuple #[]) w1) :
 callV Tryz.prog 75 [Value.pointer (some a), Value.bool b] w R :=
 vc_of hm noHints Tryz.func75 ent75 (by kernel_rfl) h
theorem vc76 (a : Addr) (w : World) (R : Value → World → Prop)
 (h : rd (World.cell? w (Addr.add a (1 : Nat))) fun v0 => isK IntKind.i64 v0 fun i1 => loopC (alist [((3 : Nat), Value.int IntKind.i64 i1)]) w fun u2 u3 => ∀ (u4 : Nat → Value) (w5 : World), u2 (alist [((3 : Nat), u4 (3 : Nat))]) w5 → isK IntKind.i64 (u4 (3 : Nat)) fun i7 => rd (World.cell? w5 a) fun v8 => isSl v8 fun o9 n10 n11 => br (decide (i7 < IntKind.wrap IntKind.i64 ((↑n10 : Int) * (8 : Int)))) (isK IntKind.i64 (u4 (3 : Nat)) fun i12 => callV Tryz.prog (88 : Nat) [Value.pointer (some a), Value.int IntKind.i64 i12] w5 fun v13 w14 => isK IntKind.u64 v13 fun i15 => br (!decide (i15 = (0 : Int))) (R (Value.bool false) w14) (isK IntKind.i64 (u4 (3 : Nat)) fun i16 => again u2 u3 (alist [((3 : Nat), Value.int IntKind.i64 (IntKind.wrap IntKind.i64 (i16 + (1 : Int))))]) w14 (alist [((3 : Nat), u4 (3 : Nat))]) w5)) (callV Tryz.prog (89 : Nat) [Value.pointer (some a)] w5 fun v17 w18 => isK IntKind.i64 v17 fun i19 => R (Value.bool (decide (i19 < (8 : Int)))) w18)) :
 callV Tryz.prog 76 [Value.pointer (some a)] w R :=
 vc_of hm ⟨fun _ => false, fun _ => .done, fun n => match n with | 2 => [3] | _ => []⟩ Tryz.func76 ent76 (by kernel_rfl) h
theorem vc82 (a : Int) (b : Int) (w : World) (R : Value → World → Prop)
 (h : allocC w (Obj.cells #[Value.int IntKind.u64 a] (166 : Nat)) fun n0 w1 => allocC w1 (Obj.cells #[Value.int IntKind.i64 b] (3 : Nat)) fun n2 w3 => R (Value.func (Fn.func (95 : Nat)) #[] #[Value.pointer (some { block := n2, off := (0 : Nat) : Addr }), Value.pointer (some { block := n0, off := (0 : Nat) : Addr })]) w3) :
 callV Tryz.prog 82 [Value.int IntKind.u64 a, Value.int IntKind.i64 b] w R :=
 vc_of hm noHints Tryz.func82 ent82 (by kernel_rfl) h
theorem vc83 (a : Int) (w : World) (R : Value → World → Prop)
 (h : R (Value.int IntKind.i64 (max (0 : Int) (min a (64 : Int)))) w) :
 callV Tryz.prog 83 [Value.int IntKind.i64 a] w R :=
 vc_of hm noHints Tryz.func83 ent83 (by kernel_rfl) h
theorem vc46 (a : Value) (b : Addr) (c : Int) (w : World) (R : Value → World → Prop)
 (h : rd (World.cell? w b) fun v0 => isK IntKind.u16 v0 fun i1 => allocC w (Obj.cells #[Value.int IntKind.u64 (0 : Int)] (166 : Nat)) fun n2 w3 => stC w3 { block := n2, off := (0 : Nat) : Addr } [Value.int IntKind.u64 (IntKind.wrap IntKind.u64 i1)] fun w4 => isIf a fun n5 v6 => methV Tryz.prog n5 v6 "embrasure/message.whole" w4 fun n7 v8 => callV Tryz.prog n7 [v8, Value.pointer (some { block := n2, off := (0 : Nat) : Addr }), Value.int IntKind.i64 c] w4 fun v9 w10 => rd (World.cell? w10 { block := n2, off := (0 : Nat) : Addr }) fun v11 => isK IntKind.u64 v11 fun i12 => stC w10 b [Value.int IntKind.u16 (IntKind.wrap IntKind.u16 i12)] fun w13 => R (Value.tuple #[]) w13) :
 callV Tryz.prog 46 [a, Value.pointer (some b), Value.int IntKind.i64 c] w R :=
 vc_of hm noHints Tryz.func46 ent46 (by kernel_rfl) h
theorem vc49 (a : Value) (b : Addr) (w : World) (R : Value → World → Prop)
 (h : callV Tryz.prog (47 : Nat) [a, Value.pointer (some b), Value.int IntKind.i64 (31 : Int)] w fun v0 w1 => heldC (World.drew w1) fun u2 => (∀ (w3 : World), u2 w3 → a = a ∧ w3 = w3) ∧ (∀ (w5 : World), u2 w5 → Value.pointer (some b) = Value.pointer (some b) ∧ w5 = w5) ∧ (∀ (w7 : World), u2 w7 → Value.pointer (some b) = Value.pointer (some b) ∧ w7 = w7) ∧ rd (World.cell? (World.drew w1) b) fun v9 => (∀ (w10 : World), u2 w10 → rd (World.cell? w10 b) fun v12 => v12 = v9 ∧ w10 = w10) ∧ isK IntKind.i64 v9 fun i13 => (∀ (w14 : World), u2 w14 → Value.bool (decide ((0 : Int) < i13)) = Value.bool (decide ((0 : Int) < i13)) ∧ w14 = w14) ∧ (∀ (w16 : World), u2 w16 → Value.func (Fn.method "embrasure/message.within") #[a] #[] = Value.func (Fn.method "embrasure/message.within") #[a] #[] ∧ w16 = w16) ∧ isIf a fun n18 v19 => nilA Tryz.prog n18 v19 "embrasure/message.within" (World.drew w1) ((∀ (w20 : World), u2 w20 → isIf a fun n22 v23 => nilA Tryz.prog n22 v23 "embrasure/message.within" w20 (Value.func (Fn.method "embrasure/message.within") #[a] #[] = Value.func (Fn.method "embrasure/message.within") #[a] #[] ∧ w20 = w20)) ∧ (∀ (w24 : World), u2 w24 → a = a ∧ w24 = w24) ∧ isIf a fun n26 v27 => methV Tryz.prog n26 v27 "embrasure/message.within" (World.drew w1) fun n28 v29 => callV Tryz.prog n28 [v29, Value.bool (decide ((0 : Int) < i13))] (World.drew w1) fun v30 w31 => R (Value.tuple #[]) w31)) :
 callV Tryz.prog 49 [a, Value.pointer (some b)] w R :=
 vc_of hm ⟨fun _ => false, fun n => match n with | 1 => .take 0 (.take 1 (.take 2 (.take 3 (.take 4 (.take 5 (.take 6 (.take 7 (.last 8 (.done))))))))) | _ => .done, fun _ => []⟩ Tryz.func49 ent49 (by kernel_rfl) h
theorem vc50 (a : Value) (b : Addr) (c : Int) (w : World) (R : Value → World → Prop)
 (h : rd (World.cell? w b) fun v0 => isK IntKind.i64 v0 fun i1 => allocC w (Obj.cells #[Value.int IntKind.u64 (0 : Int)] (166 : Nat)) fun n2 w3 => stC w3 { block := n2, off := (0 : Nat) : Addr } [Value.int IntKind.u64 (IntKind.wrap IntKind.u64 i1)] fun w4 => isIf a fun n5 v6 => methV Tryz.prog n5 v6 "embrasure/message.whole" w4 fun n7 v8 => callV Tryz.prog n7 [v8, Value.pointer (some { block := n2, off := (0 : Nat) : Addr }), Value.int IntKind.i64 c] w4 fun v9 w10 => rd (World.cell? w10 { block := n2, off := (0 : Nat) : Addr }) fun v11 => isK IntKind.u64 v11 fun i12 => stC w10 b [Value.int IntKind.i64 (IntKind.wrap IntKind.i64 i12)] fun w13 => R (Value.tuple #[]) w13) :
 callV Tryz.prog 50 [a, Value.pointer (some b), Value.int IntKind.i64 c] w R :=
 vc_of hm noHints Tryz.func50 ent50 (by kernel_rfl) h
theorem vc51 (a : Value) (b : Addr) (c : Int) (w : World) (R : Value → World → Prop)
 (h : rd (World.cell? w b) fun v0 => isK IntKind.u32 v0 fun i1 => allocC w (Obj.cells #[Value.int IntKind.u64 (0 : Int)] (166 : Nat)) fun n2 w3 => stC w3 { block := n2, off := (0 : Nat) : Addr } [Value.int IntKind.u64 (IntKind.wrap IntKind.u64 i1)] fun w4 => isIf a fun n5 v6 => methV Tryz.prog n5 v6 "embrasure/message.whole" w4 fun n7 v8 => callV Tryz.prog n7 [v8, Value.pointer (some { block := n2, off := (0 : Nat) : Addr }), Value.int IntKind.i64 c] w4 fun v9 w10 => rd (World.cell? w10 { block := n2, off := (0 : Nat) : Addr }) fun v11 => isK IntKind.u64 v11 fun i12 => stC w10 b [Value.int IntKind.u32 (IntKind.wrap IntKind.u32 i12)] fun w13 => R (Value.tuple #[]) w13) :
 callV Tryz.prog 51 [a, Value.pointer (some b), Value.int IntKind.i64 c] w R :=
 vc_of hm noHints Tryz.func51 ent51 (by kernel_rfl) h
theorem vc18 (ap : Option Addr) (an : Nat) (ac : Nat) (w : World) (R : Value → World → Prop)
 (h : br (Option.isNone ap) (R (Value.slice none (0 : Nat) (0 : Nat)) w) (runs Tryz.prog (Instr.buildSlice (39 : Nat) (0 : Nat) #[]) w fun v0 w1 => isSl v0 fun o2 n3 n4 => runs Tryz.prog (Builtin.append_ #[(39 : Nat), (39 : Nat)] (39 : Nat) #[Value.slice o2 n3 n4, Value.slice ap an ac]) w1 fun v5 w6 => isSl v5 fun o7 n8 n9 => R (Value.slice o7 n8 n9) w6)) :
 callV Tryz.prog 18 [Value.slice ap an ac] w R :=
 vc_of hm noHints Tryz.func18 ent18 (by kernel_rfl) h
theorem vc52 (ap : Option Addr) (an : Nat) (ac : Nat) (bp : Option Addr) (bn : Nat) (bc : Nat) (w : World) (R : Value → World → Prop)
 (h : br (!decide ((↑an : Int) = (↑bn : Int))) (R (Value.bool false) w) (loopC (alist [((13 : Nat), Value.int IntKind.i64 (0 : Int))]) w fun u0 u1 => ∀ (u2 : Nat → Value) (w3 : World), u0 (alist [((13 : Nat), u2 (13 : Nat))]) w3 → rd (orO (binV BinOp.lss (u2 (13 : Nat)) (Value.int IntKind.i64 (↑an : Int))) none) fun v5 => isB v5 fun t6 => br t6 (isK IntKind.i64 (u2 (13 : Nat)) fun i7 => rd ap fun a8 => ((0 : Int) ≤ i7 ∧ i7 < (↑an : Int)) ∧ rd (World.cell? (World.drew w3) (Addr.add a8 (Int.toNat i7 * (1 : Nat)))) fun v9 => isK IntKind.u8 v9 fun i10 => rd bp fun a11 => ((0 : Int) ≤ i7 ∧ i7 < (↑bn : Int)) ∧ rd (World.cell? (World.drew w3) (Addr.add a11 (Int.toNat i7 * (1 : Nat)))) fun v12 => isK IntKind.u8 v12 fun i13 => br (!decide (i10 = i13)) (R (Value.bool false) (World.drew w3)) (rd (orO (binV BinOp.add (u2 (13 : Nat)) (Value.int IntKind.i64 (1 : Int))) none) fun v14 => isK IntKind.i64 v14 fun i15 => again u0 u1 (alist [((13 : Nat), Value.int IntKind.i64 i15)]) (World.drew w3) (alist [((13 : Nat), u2 (13 : Nat))]) w3)) (R (Value.bool true) w3))) :
 callV Tryz.prog 52 [Value.slice ap an ac, Value.slice bp bn bc] w R :=
 vc_of hm ⟨fun _ => false, fun n => match n with | 6 => .take 0 (.take 1 (.take 2 (.take 3 (.take 4 (.take 5 (.take 6 (.take 7 (.take 8 (.done))))))))) | _ => .done, fun n => match n with | 4 => [13] | _ => []⟩ Tryz.func52 ent52 (by kernel_rfl) h
theorem vc87 (a : Addr) (b : Bool) (c : Int) (w : World) (R : Value → World → Prop)
 (h : br (!b) (rd (World.cell? w (Addr.add a (1 : Nat))) fun v0 => isK IntKind.i64 v0 fun i1 => br (decide (i1 = (0 : Int))) (stC w (Addr.add a (1 : Nat)) [Value.int IntKind.i64 c] fun w2 => R (Value.tuple #[]) w2) (R (Value.tuple #[]) w)) (R (Value.tuple #[]) w)) :
 callV Tryz.prog 87 [Value.pointer (some a), Value.bool b, Value.int IntKind.i64 c] w R :=
 vc_of hm noHints Tryz.func87 ent87 (by kernel_rfl) h
theorem vc88 (a : Addr) (b : Int) (w : World) (R : Value → World → Prop)
 (h : rd (World.cell? w a) fun v0 => isSl v0 fun o1 n2 n3 => rd o1 fun a4 => ((0 : Int) ≤ IntKind.wrap IntKind.i64 (Int.tdiv b (8 : Int)) ∧ IntKind.wrap IntKind.i64 (Int.tdiv b (8 : Int)) < (↑n2 : Int)) ∧ rd (World.cell? w (Addr.add a4 (Int.toNat (IntKind.wrap IntKind.i64 (Int.tdiv b (8 : Int))) * (1 : Nat)))) fun v5 => isK IntKind.u8 v5 fun i6 => rd (orO (binV BinOp.shr (Value.int IntKind.u8 i6) (Value.int IntKind.i64 (IntKind.wrap IntKind.i64 ((7 : Int) - Int.tmod b (8 : Int))))) none) fun v7 => isK IntKind.u8 v7 fun i8 => R (Value.int IntKind.u64 (IntKind.wrap IntKind.u64 (andI IntKind.u8 i8 (1 : Int)))) w) :
 callV Tryz.prog 88 [Value.pointer (some a), Value.int IntKind.i64 b] w R :=
 vc_of hm noHints Tryz.func88 ent88 (by kernel_rfl) h
theorem vc89 (a : Addr) (w : World) (R : Value → World → Prop)
 (h : rd (World.cell? (World.drew w) a) fun v0 => isSl v0 fun o1 n2 n3 => rd (World.cell? (World.drew w) (Addr.add a (1 : Nat))) fun v4 => isK IntKind.i64 v4 fun i5 => R (Value.int IntKind.i64 (IntKind.wrap IntKind.i64 (IntKind.wrap IntKind.i64 ((↑n2 : Int) * (8 : Int)) - i5))) (World.drew w)) :
 callV Tryz.prog 89 [Value.pointer (some a)] w R :=
 vc_of hm ⟨fun _ => false, fun n => match n with | 1 => .take 0 (.take 1 (.take 2 (.take 3 (.take 4 (.take 5 (.take 6 (.take 7 (.take 8 (.take 9 (.take 10 (.take 11 (.done)))))))))))) | _ => .done, fun _ => []⟩ Tryz.func89 ent89 (by kernel_rfl) h
theorem vc95 (a : Value) (c0 : Addr) (c1 : Addr) (w : World) (R : Value → World → Prop)
 (h : rd (World.cell? w c0) fun v0 => isK IntKind.i64 v0 fun i1 => loopC (alist [((4 : Nat), Value.int IntKind.i64 (IntKind.wrap IntKind.i64 (i1 - (1 : Int))))]) w fun u2 u3 => ∀ (u4 : Nat → Value) (w5 : World), u2 (alist [((4 : Nat), u4 (4 : Nat))]) w5 → isK IntKind.i64 (u4 (4 : Nat)) fun i7 => br (decide ((0 : Int) ≤ i7)) (rd (World.cell? w5 c1) fun v8 => isK IntKind.u64 v8 fun i9 => isK IntKind.i64 (u4 (4 : Nat)) fun i10 => rd (orO (binV BinOp.shr (Value.int IntKind.u64 i9) (Value.int IntKind.i64 i10)) none) fun v11 => isK IntKind.u64 v11 fun i12 => isFn a fun f13 l14 l15 => callF Tryz.prog f13 (l14 ++ [Value.int IntKind.u8 (IntKind.wrap IntKind.u8 (andI IntKind.u64 i12 (1 : Int)))]) l15 w5 fun v16 w17 => isB v16 fun t18 => br (!t18) (R (Value.tuple #[]) w17) (isK IntKind.i64 (u4 (4 : Nat)) fun i19 => again u2 u3 (alist [((4 : Nat), Value.int IntKind.i64 (IntKind.wrap IntKind.i64 (i19 - (1 : Int))))]) w17 (alist [((4 : Nat), u4 (4 : Nat))]) w5)) (R (Value.tuple #[]) w5)) :
 callV Tryz.prog 95 [a, Value.pointer (some c0), Value.pointer (some c1)] w R :=
 vc_of hm ⟨fun _ => false, fun _ => .done, fun n => match n with | 1 => [4] | _ => []⟩ Tryz.func95 ent95 (by kernel_rfl) h
theorem vc70 (a : Value) (b : Addr) (c : Int) (w : World) (R : Value → World → Prop)
 (h : rd (World.cell? w b) fun v0 => isK IntKind.u8 v0 fun i1 => allocC w (Obj.cells #[Value.int IntKind.u64 (0 : Int)] (166 : Nat)) fun n2 w3 => stC w3 { block := n2, off := (0 : Nat) : Addr } [Value.int IntKind.u64 (IntKind.wrap IntKind.u64 i1)] fun w4 => isIf a fun n5 v6 => methV Tryz.prog n5 v6 "embrasure/message.whole" w4 fun n7 v8 => callV Tryz.prog n7 [v8, Value.pointer (some { block := n2, off := (0 : Nat) : Addr }), Value.int IntKind.i64 c] w4 fun v9 w10 => rd (World.cell? w10 { block := n2, off := (0 : Nat) : Addr }) fun v11 => isK IntKind.u64 v11 fun i12 => stC w10 b [Value.int IntKind.u8 (IntKind.wrap IntKind.u8 i12)] fun w13 => R (Value.tuple #[]) w13) :
 callV Tryz.prog 70 [a, Value.pointer (some b), Value.int IntKind.i64 c] w R :=
 vc_of hm noHints Tryz.func70 ent70 (by kernel_rfl) h
theorem vc115 (a : Addr) (b : Addr) (c : Int) (w : World) (R : Value → World → Prop)
 (h : rd (World.cell? w b) fun v0 => isSl v0 fun o1 n2 n3 => allocC w (Obj.cells #[Value.int IntKind.u64 (0 : Int)] (166 : Nat)) fun n4 w5 => stC w5 { block := n4, off := (0 : Nat) : Addr } [Value.int IntKind.u64 (IntKind.wrap IntKind.u64 (↑n2 : Int))] fun w6 => callV Tryz.prog (117 : Nat) [Value.pointer (some a), Value.pointer (some { block := n4, off := (0 : Nat) : Addr }), Value.int IntKind.i64 c] w6 fun v7 w8 => rd (World.cell? w8 b) fun v9 => isSl v9 fun o10 n11 n12 => loopC (alist [((21 : Nat), Value.int IntKind.i64 (0 : Int))]) w8 fun u13 u14 => ∀ (u15 : Nat → Value) (w16 : World), u13 (alist [((21 : Nat), u15 (21 : Nat))]) w16 → rd (orO (binV BinOp.lss (u15 (21 : Nat)) (Value.int IntKind.i64 (↑n11 : Int))) none) fun v18 => isB v18 fun t19 => br t19 (isInt (u15 (21 : Nat)) fun k20 i21 => rd o10 fun a22 => ((0 : Int) ≤ i21 ∧ i21 < (↑n11 : Int)) ∧ rd (World.cell? w16 (Addr.add a22 (Int.toNat i21 * (1 : Nat)))) fun v23 => isK IntKind.u8 v23 fun i24 => callV Tryz.prog (71 : Nat) [Value.pointer (some a), Value.int IntKind.u64 (IntKind.wrap IntKind.u64 i24), Value.int IntKind.i64 (8 : Int)] w16 fun v25 w26 => rd (orO (binV BinOp.add (u15 (21 : Nat)) (Value.int IntKind.i64 (1 : Int))) none) fun v27 => isK IntKind.i64 v27 fun i28 => again u13 u14 (alist [((21 : Nat), Value.int IntKind.i64 i28)]) w26 (alist [((21 : Nat), u15 (21 : Nat))]) w16) (R (Value.tuple #[]) w16)) :
 callV Tryz.prog 115 [Value.pointer (some a), Value.pointer (some b), Value.int IntKind.i64 c] w R :=
 vc_of hm ⟨fun _ => false, fun _ => .done, fun n => match n with | 3 => [21] | _ => []⟩ Tryz.func115 ent115 (by kernel_rfl) h
theorem vc116 (a : Addr) (b : Addr) (c : Int) (w : World) (R : Value → World → Prop)
 (h : heldC (World.drew w) fun u0 => (∀ (w1 : World), u0 w1 → Value.pointer (some a) = Value.pointer (some a) ∧ w1 = w1) ∧ (∀ (w3 : World), u0 w3 → Value.pointer (some b) = Value.pointer (some b) ∧ w3 = w3) ∧ (∀ (w5 : World), u0 w5 → Value.pointer (some b) = Value.pointer (some b) ∧ w5 = w5) ∧ rd (World.cell? (World.drew w) b) fun v7 => (∀ (w8 : World), u0 w8 → rd (World.cell? w8 b) fun v10 => v10 = v7 ∧ w8 = w8) ∧ isK IntKind.i64 v7 fun i11 => (∀ (w12 : World), u0 w12 → Value.int IntKind.i64 c = Value.int IntKind.i64 c ∧ w12 = w12) ∧ (∀ (w14 : World), u0 w14 → Value.int IntKind.i64 (IntKind.wrap IntKind.i64 ((64 : Int) - c)) = Value.int IntKind.i64 (IntKind.wrap IntKind.i64 ((64 : Int) - c)) ∧ w14 = w14) ∧ rd (orO (binV BinOp.shl (Value.int IntKind.i64 i11) (Value.int IntKind.i64 (IntKind.wrap IntKind.i64 ((64 : Int) - c)))) none) fun v16 => (∀ (w17 : World), u0 w17 → rd (orO (binV BinOp.shl (Value.int IntKind.i64 i11) (Value.int IntKind.i64 (IntKind.wrap IntKind.i64 ((64 : Int) - c)))) none) fun v19 => v19 = v16 ∧ w17 = w17) ∧ isK IntKind.i64 v16 fun i20 => (∀ (w21 : World), u0 w21 → Value.int IntKind.i64 c = Value.int IntKind.i64 c ∧ w21 = w21) ∧ (∀ (w23 : World), u0 w23 → Value.int IntKind.i64 (IntKind.wrap IntKind.i64 ((64 : Int) - c)) = Value.int IntKind.i64 (IntKind.wrap IntKind.i64 ((64 : Int) - c)) ∧ w23 = w23) ∧ rd (orO (binV BinOp.shr (Value.int IntKind.i64 i20) (Value.int IntKind.i64 (IntKind.wrap IntKind.i64 ((64 : Int) - c)))) none) fun v25 => (∀ (w26 : World), u0 w26 → rd (orO (binV BinOp.shr (Value.int IntKind.i64 i20) (Value.int IntKind.i64 (IntKind.wrap IntKind.i64 ((64 : Int) - c)))) none) fun v28 => v28 = v25 ∧ w26 = w26) ∧ isK IntKind.i64 v25 fun i29 => (∀ (w30 : World), u0 w30 → Value.pointer (some b) = Value.pointer (some b) ∧ w30 = w30) ∧ (∀ (w32 : World), u0 w32 → Value.pointer (some b) = Value.pointer (some b) ∧ w32 = w32) ∧ rd (World.cell? (World.drew w) b) fun v34 => (∀ (w35 : World), u0 w35 → rd (World.cell? w35 b) fun v37 => v37 = v34 ∧ w35 = w35) ∧ isK IntKind.i64 v34 fun i38 => (∀ (w39 : World), u0 w39 → Value.bool (decide (i29 = i38)) = Value.bool (decide (i29 = i38)) ∧ w39 = w39) ∧ callV Tryz.prog (118 : Nat) [Value.pointer (some a), Value.bool (decide (i29 = i38))] (World.drew w) fun v41 w42 => u0 w42 ∧ heldC (World.drew w42) fun u43 => (∀ (w44 : World), u43 w44 → Value.pointer (some a) = Value.pointer (some a) ∧ w44 = w44) ∧ (∀ (w46 : World), u43 w46 → Value.pointer (some a) = Value.pointer (some a) ∧ w46 = w46) ∧ (∀ (w48 : World), u43 w48 → Value.pointer (some a) = Value.pointer (some a) ∧ w48 = w48) ∧ (∀ (w50 : World), u43 w50 → Value.pointer (some b) = Value.pointer (some b) ∧ w50 = w50) ∧ (∀ (w52 : World), u43 w52 → Value.pointer (some b) = Value.pointer (some b) ∧ w52 = w52) ∧ rd (World.cell? (World.drew w42) b) fun v54 => (∀ (w55 : World), u43 w55 → rd (World.cell? w55 b) fun v57 => v57 = v54 ∧ w55 = w55) ∧ isK IntKind.i64 v54 fun i58 => (∀ (w59 : World), u43 w59 → Value.int IntKind.i64 c = Value.int IntKind.i64 c ∧ w59 = w59) ∧ callV Tryz.prog (119 : Nat) [Value.pointer (some a), Value.int IntKind.i64 i58, Value.int IntKind.i64 c] (World.drew w42) fun v61 w62 => R (Value.tuple #[]) w62) :
 callV Tryz.prog 116 [Value.pointer (some a), Value.pointer (some b), Value.int IntKind.i64 c] w R :=
 vc_of hm ⟨fun _ => false, fun n => match n with | 0 => .take 0 (.take 1 (.take 2 (.take 3 (.take 4 (.take 5 (.take 6 (.take 7 (.take 8 (.take 9 (.take 10 (.take 11 (.take 12 (.take 13 (.one 14 (.done))))))))))))))) | 1 => .take 0 (.take 1 (.take 2 (.take 3 (.take 4 (.take 5 (.take 6 (.last 7 (.done)))))))) | _ => .done, fun _ => []⟩ Tryz.func116 ent116 (by kernel_rfl) h
theorem vc117 (a : Addr) (b : Addr) (c : Int) (w : World) (R : Value → World → Prop)
 (h : rd (World.cell? w b) fun v0 => isK IntKind.u64 v0 fun i1 => rd (orO (binV BinOp.shr (Value.int IntKind.u64 i1) (Value.int IntKind.i64 c)) none) fun v2 => isK IntKind.u64 v2 fun i3 => callV Tryz.prog (118 : Nat) [Value.pointer (some a), Value.bool (decide (i3 = (0 : Int)))] w fun v4 w5 => heldC (World.drew w5) fun u6 => (∀ (w7 : World), u6 w7 → Value.pointer (some a) = Value.pointer (some a) ∧ w7 = w7) ∧ (∀ (w9 : World), u6 w9 → Value.pointer (some a) = Value.pointer (some a) ∧ w9 = w9) ∧ (∀ (w11 : World), u6 w11 → Value.pointer (some a) = Value.pointer (some a) ∧ w11 = w11) ∧ (∀ (w13 : World), u6 w13 → Value.pointer (some b) = Value.pointer (some b) ∧ w13 = w13) ∧ (∀ (w15 : World), u6 w15 → Value.pointer (some b) = Value.pointer (some b) ∧ w15 = w15) ∧ rd (World.cell? (World.drew w5) b) fun v17 => (∀ (w18 : World), u6 w18 → rd (World.cell? w18 b) fun v20 => v20 = v17 ∧ w18 = w18) ∧ isK IntKind.u64 v17 fun i21 => (∀ (w22 : World), u6 w22 → Value.int IntKind.i64 c = Value.int IntKind.i64 c ∧ w22 = w22) ∧ callV Tryz.prog (71 : Nat) [Value.pointer (some a), Value.int IntKind.u64 i21, Value.int IntKind.i64 c] (World.drew w5) fun v24 w25 => R (Value.tuple #[]) w25) :
 callV Tryz.prog 117 [Value.pointer (some a), Value.pointer (some b), Value.int IntKind.i64 c] w R :=
 vc_of hm ⟨fun _ => false, fun n => match n with | 1 => .take 0 (.take 1 (.take 2 (.take 3 (.take 4 (.take 5 (.take 6 (.last 7 (.done)))))))) | _ => .done, fun _ => []⟩ Tryz.func117 ent117 (by kernel_rfl) h
theorem vc118 (a : Addr) (b : Bool) (w : World) (R : Value → World → Prop)
 (h : rd (World.cell? w (Addr.add a (2 : Nat))) fun v0 => isB v0 fun t1 => br t1 (stC w (Addr.add a (2 : Nat)) [Value.bool true] fun w2 => R (Value.tuple #[]) w2) (stC w (Addr.add a (2 : Nat)) [Value.bool !b] fun w3 => R (Value.tuple #[]) w3)) :
 callV Tryz.prog 118 [Value.pointer (some a), Value.bool b] w R :=
 vc_of hm noHints Tryz.func118 ent118 (by kernel_rfl) h
theorem vc119 (a : Addr) (b : Int) (c : Int) (w : World) (R : Value → World → Prop)
 (h : callV Tryz.prog (71 : Nat) [Value.pointer (some a), Value.int IntKind.u64 (IntKind.wrap IntKind.u64 b), Value.int IntKind.i64 c] w fun v0 w1 => R (Value.tuple #[]) w1) :
 callV Tryz.prog 119 [Value.pointer (some a), Value.int IntKind.i64 b, Value.int IntKind.i64 c] w R :=
 vc_of hm noHints Tryz.func119 ent119 (by kernel_rfl) h
theorem vc121 (a : Addr) (b : Addr) (c : Int) (w : World) (R : Value → World → Prop)
 (h : rd (World.cell? w a) fun v0 => isP v0 fun o1 => callV Tryz.prog (123 : Nat) [Value.pointer o1, Value.int IntKind.i64 c] w fun v2 w3 => isTup v2 fun l4 => rd l4[(0 : Nat)]? fun v5 => isK IntKind.i64 v5 fun i6 => isTup v2 fun l7 => rd l7[(1 : Nat)]? fun v8 => isB v8 fun t9 => callV Tryz.prog (87 : Nat) [Value.pointer (some a), Value.bool t9, Value.int IntKind.i64 (2 : Int)] w3 fun v10 w11 => stC w11 b [Value.int IntKind.i64 i6] fun w12 => R (Value.tuple #[]) w12) :
 callV Tryz.prog 121 [Value.pointer (some a), Value.pointer (some b), Value.int IntKind.i64 c] w R :=
 vc_of hm noHints Tryz.func121 ent121 (by kernel_rfl) h
theorem vc122 (a : Addr) (b : Addr) (c : Int) (w : World) (R : Value → World → Prop)
 (h : rd (World.cell? w a) fun v0 => isP v0 fun o1 => callV Tryz.prog (124 : Nat) [Value.pointer o1, Value.int IntKind.i64 c] w fun v2 w3 => isTup v2 fun l4 => rd l4[(0 : Nat)]? fun v5 => isK IntKind.u64 v5 fun i6 => isTup v2 fun l7 => rd l7[(1 : Nat)]? fun v8 => isB v8 fun t9 => callV Tryz.prog (87 : Nat) [Value.pointer (some a), Value.bool t9, Value.int IntKind.i64 (2 : Int)] w3 fun v10 w11 => stC w11 b [Value.int IntKind.u64 i6] fun w12 => R (Value.tuple #[]) w12) :
 callV Tryz.prog 122 [Value.pointer (some a), Value.pointer (some b), Value.int IntKind.i64 c] w R :=
 vc_of hm noHints Tryz.func122 ent122 (by kernel_rfl) h
theorem vc123 (a : Addr) (b : Int) (w : World) (R : Value → World → Prop)
 (h : callV Tryz.prog (124 : Nat) [Value.pointer (some a), Value.int IntKind.i64 b] w fun v0 w1 => isTup v0 fun l2 => rd l2[(0 : Nat)]? fun v3 => isK IntKind.u64 v3 fun i4 => isTup v0 fun l5 => rd l5[(1 : Nat)]? fun v6 => isB v6 fun t7 => callV Tryz.prog (83 : Nat) [Value.int IntKind.i64 b] w1 fun v8 w9 => isK IntKind.i64 v8 fun i10 => rd (orO (binV BinOp.shl (Value.int IntKind.u64 i4) (Value.int IntKind.i64 (IntKind.wrap IntKind.i64 ((64 : Int) - i10)))) none) fun v11 => isK IntKind.u64 v11 fun i12 => rd (orO (binV BinOp.shr (Value.int IntKind.i64 (IntKind.wrap IntKind.i64 i12)) (Value.int IntKind.i64 (IntKind.wrap IntKind.i64 ((64 : Int) - i10)))) none) fun v13 => isK IntKind.i64 v13 fun i14 => R (Value.tuple #[Value.int IntKind.i64 i14, Value.bool t7]) w9) :
 callV Tryz.prog 123 [Value.pointer (some a), Value.int IntKind.i64 b] w R :=
 vc_of hm noHints Tryz.func123 ent123 (by kernel_rfl) h
theorem vc124 (a : Addr) (b : Int) (w : World) (R : Value → World → Prop)
 (h : callV Tryz.prog (83 : Nat) [Value.int IntKind.i64 b] w fun v0 w1 => isK IntKind.i64 v0 fun i2 => callV Tryz.prog (89 : Nat) [Value.pointer (some a)] w1 fun v3 w4 => isK IntKind.i64 v3 fun i5 => br (decide (i5 < i2)) (heldC (World.drew w4) fun u6 => (∀ (w7 : World), u6 w7 → Value.pointer (some a) = Value.pointer (some a) ∧ w7 = w7) ∧ (∀ (w9 : World), u6 w9 → Value.pointer (some a) = Value.pointer (some a) ∧ w9 = w9) ∧ (∀ (w11 : World), u6 w11 → Value.pointer (some (Addr.add a (1 : Nat))) = Value.pointer (some (Addr.add a (1 : Nat))) ∧ w11 = w11) ∧ rd (World.cell? (World.drew w4) (Addr.add a (1 : Nat))) fun v13 => (∀ (w14 : World), u6 w14 → rd (World.cell? w14 (Addr.add a (1 : Nat))) fun v16 => v16 = v13 ∧ w14 = w14) ∧ isK IntKind.i64 v13 fun i17 => (∀ (w18 : World), u6 w18 → Value.pointer (some a) = Value.pointer (some a) ∧ w18 = w18) ∧ callV Tryz.prog (89 : Nat) [Value.pointer (some a)] (World.drew w4) fun v20 w21 => isK IntKind.i64 v20 fun i22 => u6 w21 ∧ stC w21 (Addr.add a (1 : Nat)) [Value.int IntKind.i64 (IntKind.wrap IntKind.i64 (i17 + i22))] fun w23 => R (Value.tuple #[Value.int IntKind.u64 (0 : Int), Value.bool false]) w23) (loopC (alist [((4 : Nat), Value.int IntKind.u64 (0 : Int)), ((22 : Nat), Value.int IntKind.i64 (0 : Int))]) w4 fun u24 u25 => ∀ (u26 : Nat → Value) (w27 : World), u24 (alist [((4 : Nat), u26 (4 : Nat)), ((22 : Nat), u26 (22 : Nat))]) w27 → rd (orO (binV BinOp.lss (u26 (22 : Nat)) (Value.int IntKind.i64 i2)) none) fun v29 => isB v29 fun t30 => br t30 (isK IntKind.u64 (u26 (4 : Nat)) fun i31 => rd (World.cell? w27 (Addr.add a (1 : Nat))) fun v32 => isK IntKind.i64 v32 fun i33 => callV Tryz.prog (88 : Nat) [Value.pointer (some a), Value.int IntKind.i64 i33] w27 fun v34 w35 => isK IntKind.u64 v34 fun i36 => rd (World.cell? w35 (Addr.add a (1 : Nat))) fun v37 => isK IntKind.i64 v37 fun i38 => stC w35 (Addr.add a (1 : Nat)) [Value.int IntKind.i64 (IntKind.wrap IntKind.i64 (i38 + (1 : Int)))] fun w39 => rd (orO (binV BinOp.add (u26 (22 : Nat)) (Value.int IntKind.i64 (1 : Int))) none) fun v40 => isK IntKind.i64 v40 fun i41 => again u24 u25 (alist [((4 : Nat), Value.int IntKind.u64 (orI IntKind.u64 (IntKind.wrap IntKind.u64 (i31 * (2 : Int))) i36)), ((22 : Nat), Value.int IntKind.i64 i41)]) w39 (alist [((4 : Nat), u26 (4 : Nat)), ((22 : Nat), u26 (22 : Nat))]) w27) (isK IntKind.u64 (u26 (4 : Nat)) fun i42 => R (Value.tuple #[Value.int IntKind.u64 i42, Value.bool true]) w27))) :
 callV Tryz.prog 124 [Value.pointer (some a), Value.int IntKind.i64 b] w R :=
 vc_of hm ⟨fun _ => false, fun n => match n with | 3 => .take 0 (.take 1 (.take 2 (.take 3 (.take 4 (.one 5 (.last 6 (.last 7 (.last 8 (.last 9 (.done)))))))))) | _ => .done, fun n => match n with | 6 => [4, 22] | _ => []⟩ Tryz.func124 ent124 (by kernel_rfl) h
end Go.Proofs.YtipikchkbmgloaaGreatDoor
