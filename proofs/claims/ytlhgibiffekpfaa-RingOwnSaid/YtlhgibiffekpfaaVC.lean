/- A small calculus of conditions for Go code as the model has it: what 'vc' says of a piece of code implies that the code comes to its end with the post.  Conditions: none (a general text, over any program). -/
import Derived.WalkKit
import Derived.RangeFuncNested
import Derived.RangeFuncLeaves
namespace Go.Proofs.Ytlhgibiffekpfaa.VC
set_option linter.unusedSimpArgs false
set_option linter.unusedVariables false
open Go Go.RowKit

/-! ### Frames as functions (n: how many slots there are) -/
abbrev Env := Nat → Value
def put (e : Env) (d : Option Nat) (v : Value) : Env :=
  match d with
  | some d => fun s => cond (Nat.beq s d) v (e s)
  | none => e
def ev (n : Nat) (e : Env) : Operand → Value
  | .tmp t => cond (Nat.blt t n) (e t) undef
  | .const v => v
  | .global g => .pointer (some ⟨g, 0, none⟩)
  | .func f => .func (.func f) #[] #[]
/-- Where the frame keeps its marks: the blocks of the rounds' deferred calls, the newest first. -/
def dSlot : Nat := 1000000
def dfOf : Value → List Nat
  | .tuple vs => vs.toList.map fun v => match v with | .pointer (some a) => a.block | _ => 0
  | _ => []
def encD (ds : List Nat) : Value := .tuple (ds.map fun D => .pointer (some ⟨D, 0, none⟩)).toArray
def pushD (D : Nat) (v : Value) : Value := encD (D :: dfOf v)
theorem dfOf_encD (ds : List Nat) : dfOf (encD ds) = ds := by simp [dfOf, encD, Function.comp_def]
theorem dfOf_undef : dfOf undef = [] := rfl
def markD (D : Nat) : Deferred := { target := .collected D, args := #[] }
def act (n : Nat) (e : Env) : Act := ⟨((List.range n).map e).toArray, (dfOf (e dSlot)).map markD⟩

theorem act_get (n : Nat) (e : Env) (t : Nat) : (act n e).tmps[t]? = cond (Nat.blt t n) (some (e t)) none := by
  simp only [act, List.getElem?_toArray, List.getElem?_map]
  cases h : Nat.blt t n with
  | true => rw [Nat.blt_eq] at h; simp [h]
  | false =>
    have h' : ¬ t < n := fun hn => by rw [← Nat.blt_eq] at hn; rw [hn] at h; cases h
    simp [List.getElem?_eq_none (show (List.range n).length ≤ t by simp; omega)]
theorem act_getD (n : Nat) (e : Env) (t : Nat) : (act n e).tmps.getD t undef = cond (Nat.blt t n) (e t) undef := by
  rw [Array.getD_eq_getD_getElem?, act_get]
  cases Nat.blt t n <;> rfl
theorem act_eval (n : Nat) (e : Env) : (act n e).eval = ev n e := by
  funext x
  cases x with
  | tmp t => exact act_getD n e t
  | _ => rfl
theorem act_put (n : Nat) (e : Env) (d : Option Nat) (v : Value) (hd : d ≠ some dSlot) : (act n e).put d v = act n (put e d v) := by
  cases d with
  | none => rfl
  | some d =>
    have hb : Nat.beq dSlot d = false := by
      cases h : Nat.beq dSlot d with
      | false => rfl
      | true => exact absurd (congrArg some (Nat.eq_of_beq_eq_true h).symm) hd
    simp only [act, Act.put, put, Act.mk.injEq, hb, cond_false, and_true]
    rw [List.setIfInBounds_toArray]
    congr 1
    refine List.ext_getElem? fun i => ?_
    by_cases hi : d = i
    · subst hi
      by_cases hn : d < n
      · rw [List.getElem?_set_self (by simpa using hn)]; simp [hn, Nat.beq_refl]
      · rw [List.getElem?_eq_none (by simp; omega), List.getElem?_eq_none (by simp; omega)]
    · rw [List.getElem?_set_ne hi]
      have hb : Nat.beq i d = false := by
        cases h : Nat.beq i d with
        | false => rfl
        | true => exact absurd (Nat.eq_of_beq_eq_true h).symm hi
      by_cases hn : i < n
      · simp [hn, hb]
      · rw [List.getElem?_eq_none (by simp; omega), List.getElem?_eq_none (by simp; omega)]

/-- Sets of slots. -/
def mem (s : Nat) : List Nat → Bool
  | [] => false
  | x :: l => cond (Nat.beq s x) true (mem s l)
def ins (s : Nat) : List Nat → List Nat
  | [] => [s]
  | x :: l => cond (Nat.beq s x) (x :: l) (cond (Nat.blt s x) (s :: x :: l) (x :: ins s l))
def uni : List Nat → List Nat → List Nat
  | [], r => r
  | s :: l, r => uni l (ins s r)
theorem mem_ins {s t : Nat} : ∀ {l : List Nat}, (t = s ∨ mem t l = true) → mem t (ins s l) = true := by
  intro l
  induction l with
  | nil => intro h; rcases h with rfl | h; simp [ins, mem, Nat.beq_refl]; cases h
  | cons x l ih =>
    intro h
    simp only [ins]
    cases hx : Nat.beq s x with
    | true =>
      obtain rfl := Nat.eq_of_beq_eq_true hx
      rcases h with rfl | h
      · simp [mem, Nat.beq_refl]
      · exact h
    | false =>
      cases Nat.blt s x with
      | true =>
        rcases h with rfl | h
        · simp [mem, Nat.beq_refl]
        · simp only [cond_true, cond_false, mem]; cases Nat.beq t s <;> first | rfl | exact h
      | false =>
        simp only [cond_false, mem]
        cases htx : Nat.beq t x with
        | true => rfl
        | false =>
          simp only [cond_false]
          refine ih ?_
          rcases h with h | h
          · exact .inl h
          · simp only [mem, htx, cond_false] at h; exact .inr h
theorem mem_uni {t : Nat} : ∀ {l r : List Nat}, (mem t l = true ∨ mem t r = true) → mem t (uni l r) = true := by
  intro l
  induction l with
  | nil => intro r h; rcases h with h | h; cases h; exact h
  | cons s l ih =>
    intro r h
    refine ih ?_
    rcases h with h | h
    · simp only [mem] at h
      cases hs : Nat.beq t s with
      | true => exact .inr (mem_ins (.inl (Nat.eq_of_beq_eq_true hs)))
      | false => rw [hs] at h; exact .inl h
    · exact .inr (mem_ins (.inr h))

theorem mem_ins_elim {s t : Nat} : ∀ {l : List Nat}, mem t (ins s l) = true → t = s ∨ mem t l = true := by
  intro l
  induction l with
  | nil =>
    intro h
    simp only [ins, mem] at h
    cases hb : Nat.beq t s with
    | true => exact .inl (Nat.eq_of_beq_eq_true hb)
    | false => rw [hb] at h; cases h
  | cons x l ih =>
    intro h
    simp only [ins] at h
    cases hx : Nat.beq s x with
    | true => rw [hx] at h; exact .inr h
    | false =>
      rw [hx] at h
      cases hl : Nat.blt s x with
      | true =>
        rw [hl] at h
        simp only [cond_true, cond_false] at h
        rw [mem] at h
        cases hb : Nat.beq t s with
        | true => exact .inl (Nat.eq_of_beq_eq_true hb)
        | false => rw [hb] at h; exact .inr h
      | false =>
        rw [hl] at h
        simp only [cond_false, mem] at h ⊢
        cases htx : Nat.beq t x with
        | true => exact .inr rfl
        | false => rw [htx] at h; exact ih h
theorem mem_uni_elim {t : Nat} : ∀ {l r : List Nat}, mem t (uni l r) = true → mem t l = true ∨ mem t r = true := by
  intro l
  induction l with
  | nil => intro r h; exact .inr h
  | cons s l ih =>
    intro r h
    rcases ih h with h | h
    · refine .inl ?_
      simp only [mem]
      cases Nat.beq t s <;> first | rfl | exact h
    · rcases mem_ins_elim h with rfl | h
      · exact .inl (by simp [mem, Nat.beq_refl])
      · exact .inr h

/-- Nothing but the slots of S has turned. -/
def Fr (S : List Nat) (e e' : Env) : Prop := ∀ s, mem s S = false → e' s = e s
theorem Fr.refl (S : List Nat) (e : Env) : Fr S e e := fun _ _ => rfl
theorem Fr.trans {S : List Nat} {a b c : Env} (h : Fr S a b) (k : Fr S b c) : Fr S a c := fun s hs => (k s hs).trans (h s hs)
theorem Fr.mono {S S' : List Nat} {a b : Env} (h : Fr S a b) (hS : ∀ s, mem s S = true → mem s S' = true) : Fr S' a b := fun s hs => h s (by
  cases hm : mem s S with
  | false => rfl
  | true => rw [hS s hm] at hs; cases hs)
theorem Fr.put {S : List Nat} {a b : Env} (h : Fr S a b) (d : Option Nat) (v : Value) (hd : ∀ x, d = some x → mem x S = true) : Fr S a (put b d v) := by
  refine h.trans ?_
  cases d with
  | none => exact Fr.refl _ _
  | some d =>
    intro s hs
    simp only [VC.put]
    cases hb : Nat.beq s d with
    | false => rfl
    | true =>
      obtain rfl := Nat.eq_of_beq_eq_true hb
      rw [hd _ rfl] at hs
      cases hs

/-- The slots of S hold whatever u says. -/
def havoc (S : List Nat) (u : Nat → Value) (e : Env) : Env := fun s => cond (mem s S) (u s) (e s)
/-- A few slots, written out. -/
def alist : List (Nat × Value) → Nat → Value
  | [], _ => undef
  | (d, v) :: l, s => cond (Nat.beq s d) v (alist l s)
def pairs (S : List Nat) (e : Env) : List (Nat × Value) := S.map fun s => (s, e s)
theorem alist_pairs {e : Env} {s : Nat} : ∀ {S : List Nat}, mem s S = true → alist (pairs S e) s = e s := by
  intro S
  induction S with
  | nil => intro h; cases h
  | cons x S ih =>
    intro h
    simp only [pairs, List.map_cons, alist]
    cases hb : Nat.beq s x with
    | true => obtain rfl := Nat.eq_of_beq_eq_true hb; rfl
    | false => simp only [mem, hb, cond_false] at h; exact ih h
theorem havoc_of_fr {S : List Nat} {e e' : Env} (h : Fr S e e') : havoc S (alist (pairs S e')) e = e' := by
  funext s
  simp only [havoc]
  cases hm : mem s S with
  | true => exact alist_pairs hm
  | false => exact (h s hm).symm

/-! ### The words of the conditions (each computes where its value is known) -/
def isB (v : Value) (K : Bool → Prop) : Prop := match v with | .bool b => K b | _ => False
def rd {α : Type} (x : Option α) (K : α → Prop) : Prop := match x with | some v => K v | none => False
def isPtr (v : Value) (K : Addr → Prop) : Prop := match v with | .pointer (some a) => K a | _ => False
def isInt (v : Value) (K : IntKind → Int → Prop) : Prop := match v with | .int k i => K k i | _ => False
def isSl (v : Value) (K : Option Addr → Nat → Nat → Prop) : Prop := match v with | .slice a n c => K a n c | _ => False
def isCs (v : Value) (K : List Value → Prop) : Prop := match v with | .agg cs => K cs.toList | _ => False
def isTup (v : Value) (K : List Value → Prop) : Prop := match v with | .tuple cs => K cs.toList | _ => False
def isFn (v : Value) (K : Fn → List Value → List Value → Prop) : Prop := match v with | .func f a c => K f a.toList c.toList | _ => False
def isIf (v : Value) (K : TypeId → Value → Prop) : Prop := match v with | .iface t v => K t v | _ => False
def isStr (v : Value) (K : ByteArray → Prop) : Prop := match v with | .string s => K s | _ => False
def br (t : Bool) (A B : Prop) : Prop := match t with | true => A | false => B
theorem br_iff {t : Bool} {A B : Prop} : br t A B ↔ (t = true → A) ∧ (t = false → B) := by cases t <;> simp [br]
theorem br_of {t : Bool} {A B : Prop} (h1 : t = true → A) (h2 : t = false → B) : br t A B := br_iff.2 ⟨h1, h2⟩
/-- A loop: an invariant and a measure are to be named; they speak of the slots that are live there. -/
def loopC (e : Nat → Value) (w : World) (B : ((Nat → Value) → World → Prop) → ((Nat → Value) → World → Nat) → Prop) : Prop :=
  ∃ (I : (Nat → Value) → World → Prop) (μ : (Nat → Value) → World → Nat), I e w ∧ B I μ
def again (I : (Nat → Value) → World → Prop) (μ : (Nat → Value) → World → Nat) (e : Nat → Value) (w' : World) (u : Nat → Value) (w : World) : Prop := I e w' ∧ μ e w' < μ u w
/-- A cut: what holds there is to be named. -/
def cutC (A : ((Nat → Value) → World → Prop) → Prop) (B : ((Nat → Value) → World → Prop) → Prop) : Prop := ∃ J : (Nat → Value) → World → Prop, A J ∧ B J
def heldC (w : World) (B : (World → Prop) → Prop) : Prop := ∃ S : World → Prop, S w ∧ B S
def allocC (w : World) (o : Obj) (K : Nat → World → Prop) : Prop := ∀ b w', b = w.heap.size → w' = w.alloc o → K b w'
theorem isB_ex {v : Value} {K : Bool → Prop} (h : isB v K) : ∃ b, v = .bool b ∧ K b := by unfold isB at h; split at h; exact ⟨_, rfl, h⟩; exact h.elim
theorem rd_ex {α : Type} {x : Option α} {K : α → Prop} (h : rd x K) : ∃ v, x = some v ∧ K v := by unfold rd at h; split at h; exact ⟨_, rfl, h⟩; exact h.elim
theorem isPtr_ex {v : Value} {K : Addr → Prop} (h : isPtr v K) : ∃ a, v = .pointer (some a) ∧ K a := by unfold isPtr at h; split at h; exact ⟨_, rfl, h⟩; exact h.elim
theorem isInt_ex {v : Value} {K : IntKind → Int → Prop} (h : isInt v K) : ∃ k i, v = .int k i ∧ K k i := by unfold isInt at h; split at h; exact ⟨_, _, rfl, h⟩; exact h.elim
theorem isSl_ex {v : Value} {K : Option Addr → Nat → Nat → Prop} (h : isSl v K) : ∃ a n c, v = .slice a n c ∧ K a n c := by unfold isSl at h; split at h; exact ⟨_, _, _, rfl, h⟩; exact h.elim
theorem isCs_ex {v : Value} {K : List Value → Prop} (h : isCs v K) : ∃ cs : List Value, v = .agg cs.toArray ∧ K cs := by
  unfold isCs at h; split at h
  · rename_i cs; exact ⟨cs.toList, by simp, h⟩
  · exact h.elim
theorem isTup_ex {v : Value} {K : List Value → Prop} (h : isTup v K) : ∃ cs : List Value, v = .tuple cs.toArray ∧ K cs := by
  unfold isTup at h; split at h
  · rename_i cs; exact ⟨cs.toList, by simp, h⟩
  · exact h.elim
theorem isFn_ex {v : Value} {K : Fn → List Value → List Value → Prop} (h : isFn v K) : ∃ f a c, v = .func f a c ∧ K f a.toList c.toList := by unfold isFn at h; split at h; exact ⟨_, _, _, rfl, h⟩; exact h.elim
theorem isStr_ex {v : Value} {K : ByteArray → Prop} (h : isStr v K) : ∃ s, v = .string s ∧ K s := by unfold isStr at h; split at h; exact ⟨_, rfl, h⟩; exact h.elim
theorem isIf_ex {v : Value} {K : TypeId → Value → Prop} (h : isIf v K) : ∃ t x, v = .iface t x ∧ K t x := by unfold isIf at h; split at h; exact ⟨_, _, rfl, h⟩; exact h.elim
/-- Read: what stands there. -/
theorem rd_of {α : Type} {x : Option α} {v : α} {K : α → Prop} (h : x = some v) (k : K v) : rd x K := by rw [h]; exact k
theorem br_dec {p : Prop} [Decidable p] {A B : Prop} (h1 : p → A) (h2 : ¬ p → B) : br (decide p) A B := br_of (fun h => h1 (of_decide_eq_true h)) (fun h => h2 (of_decide_eq_false h))
theorem br_ndec {p : Prop} [Decidable p] {A B : Prop} (h1 : ¬ p → A) (h2 : p → B) : br (!decide p) A B := br_of (fun h => h1 (by simpa using h)) (fun h => h2 (by simpa using h))

/-! ### The types' rows -/
inductive K where
  | bad | bool | int (k : IntKind) | string | ptr (e : TypeId) | slice (e : TypeId) | array (n : Nat) (e : TypeId)
  | map (k e : TypeId) | chan (e : TypeId) | struct (fs : List (Nat × TypeId)) | func | iface | other
def K.good : K → Bool
  | .bad => false
  | _ => true
def K.conc : K → Bool
  | .bad => false
  | .iface => false
  | _ => true
theorem K.good_ne {k : K} (h : k.good = true) : k ≠ .bad := by rintro rfl; cases h
structure TI where
  k : K
  size : Nat
  bytes : Nat
  zero : Option Value
def kOf : TypeDesc → K
  | .bool => .bool | .int k => .int k | .string => .string | .pointer e => .ptr e | .slice e => .slice e | .array n e => .array n e
  | .map k e => .map k e | .chan _ e => .chan e | .struct fs => .struct (fs.toList.map fun f => (f.offset, f.type)) | .func .. => .func
  | .interface _ => .iface | _ => .other
def row (P : Program) (t : TypeId) : TI :=
  match P.info? t, P.underlying t with
  | some i, some d => ⟨kOf d, i.size, i.bytes, i.zero⟩
  | _, _ => ⟨.bad, 0, 0, none⟩
def TI.agg (t : TI) : Bool := match t.k with | .struct _ | .array _ _ => true | _ => false

/-- n cells from a on, or none. -/
def cellsAt (w : World) (a : Addr) : Nat → Option (List Value)
  | 0 => some []
  | n + 1 => (cellsAt w a n).bind fun l => (w.cell? (a.add n)).map fun v => l ++ [v]
/-- The cells from i on are there, may be written, and the values fit. -/
def canWrite (w : World) (a : Addr) : Nat → List Value → Prop
  | _, [] => True
  | i, v :: vs => (∃ x, w.cell? (a.add i) = some x) ∧ w.frozen? (a.add i) = false ∧ v.oneCell' = true ∧ canWrite (w.setCell (a.add i) v) a (i + 1) vs
def written (w : World) (a : Addr) : Nat → List Value → World
  | _, [] => w
  | i, v :: vs => written (w.setCell (a.add i) v) a (i + 1) vs

def gd (b : Bool) : Option Unit := match b with | true => some () | false => none
theorem gd_some {b : Bool} {u : Unit} (h : gd b = some u) : b = true := by cases b; cases h; rfl
def stC (w : World) (a : Addr) (vs : List Value) (K : World → Prop) : Prop := canWrite w a 0 vs ∧ ∀ w', w' = written w a 0 vs → K w'
/-- The cells of a value of a type: of one that is no struct and no array, itself. -/
def cellsOf (agg : Bool) (v : Value) : List Value := match agg with | true => v.cells.toList | false => [v]
def sized (t : TI) (v : Value) : Bool := match t.agg with | true => v.cells.toList.length == t.size | false => v.oneCell' && (t.size == 1)
def fillL (place : Nat → Option (Nat × TI)) (cells : List Value) : List (Nat × Value) → Option (List Value)
  | [] => some cells
  | (i, v) :: rest =>
    match place i with
    | none => none
    | some (off, t) =>
      match Nat.ble (off + t.size) cells.length with
      | true => fillL place (cells.take off ++ cellsOf t.agg v ++ cells.drop (off + t.size)) rest
      | false => none
def fillOk (place : Nat → Option (Nat × TI)) : List (Nat × Value) → Bool
  | [] => true
  | (i, v) :: rest =>
    match place i with
    | none => false
    | some (_, t) => sized t v && fillOk place rest
def fieldPlaces (P : Program) (fs : List (Nat × TypeId)) (i : Nat) : Option (Nat × TI) := (fs[i]?).map fun f => (f.1, row P f.2)
def elemPlaces (P : Program) (el : TypeId) (i : Nat) : Option (Nat × TI) := some (i * (row P el).size, row P el)

def ikEq : IntKind → IntKind → Bool
  | .i8, .i8 => true | .i16, .i16 => true | .i32, .i32 => true | .i64, .i64 => true
  | .u8, .u8 => true | .u16, .u16 => true | .u32, .u32 => true | .u64, .u64 => true
  | _, _ => false
theorem ikEq_eq {a b : IntKind} (h : ikEq a b = true) : a = b := by cases a <;> cases b <;> first | rfl | cases h
def onK (k k' : IntKind) (v : Option Value) : Option Value := match ikEq k k' with | true => v | false => none
theorem onK_some {k k' : IntKind} {v : Option Value} {u : Value} (h : onK k k' v = some u) : k = k' ∧ v = some u := by
  unfold onK at h
  split at h
  · rename_i hk; exact ⟨ikEq_eq hk, h⟩
  · cases h
def shN (b : Int) (f : Nat → Value) : Option Value := match b with | .ofNat n => some (f n) | .negSucc _ => none
def dvN (b : Int) (v : Value) : Option Value := match b with | .ofNat 0 => none | _ => some v
theorem shN_some {b : Int} {f : Nat → Value} {u : Value} (h : shN b f = some u) : ¬ b < 0 ∧ u = f b.toNat := by
  unfold shN at h
  split at h
  · cases h; exact ⟨by simp, rfl⟩
  · cases h
theorem dvN_some {b : Int} {v u : Value} (h : dvN b v = some u) : b ≠ 0 ∧ u = v := by
  unfold dvN at h
  split at h
  · cases h
  · rename_i hn; cases h; exact ⟨fun e => hn (by subst e; rfl), rfl⟩
def cmpI (op : BinOp) (a b : Int) : Option Bool :=
  match op with
  | .eql => some (decide (a = b)) | .neq => some (!decide (a = b)) | .lss => some (decide (a < b)) | .leq => some (decide (a ≤ b))
  | .gtr => some (decide (b < a)) | .geq => some (decide (b ≤ a)) | _ => none
/-- Bits: words that are not unfolded. -/
def andI (k : IntKind) (a b : Int) : Int := k.wrap (BitVec.ofInt k.bits a &&& BitVec.ofInt k.bits b).toNat
def orI (k : IntKind) (a b : Int) : Int := k.wrap (BitVec.ofInt k.bits a ||| BitVec.ofInt k.bits b).toNat
def xorI (k : IntKind) (a b : Int) : Int := k.wrap (BitVec.ofInt k.bits a ^^^ BitVec.ofInt k.bits b).toNat
def anI (k : IntKind) (a b : Int) : Int := k.wrap (BitVec.ofInt k.bits a &&& ~~~ (BitVec.ofInt k.bits b)).toNat
/-- Two texts, one behind the other. -/
def catS (a b : ByteArray) : Option Value := match Nat.ble (a.size + b.size) 9223372036854775807 with | true => some (.string (a ++ b)) | false => none
theorem catS_some {a b : ByteArray} {v : Value} (h : catS a b = some v) : a.size + b.size ≤ 9223372036854775807 ∧ v = .string (a ++ b) := by
  unfold catS at h
  split at h
  · rename_i hb; cases h; exact ⟨Nat.le_of_ble_eq_true hb, rfl⟩
  · cases h
theorem catS_of {a b : ByteArray} (h : a.size + b.size ≤ 9223372036854775807) : catS a b = some (.string (a ++ b)) := by
  unfold catS; rw [Nat.ble_eq_true_of_le h]
/-- What an operator yields without looking at memory. -/
def binV (op : BinOp) (x y : Value) : Option Value :=
  match x, y with
  | .int k a, .int k' b =>
    match op with
    | .shl => shN b fun n => .int k (k.wrap (a * 2 ^ (min n k.bits)))
    | .shr => shN b fun n => .int k (a.fdiv (2 ^ (min n k.bits)))
    | .add => onK k k' (some (.int k (k.wrap (a + b))))
    | .sub => onK k k' (some (.int k (k.wrap (a - b))))
    | .mul => onK k k' (some (.int k (k.wrap (a * b))))
    | .quo => onK k k' (dvN b (.int k (k.wrap (a.tdiv b))))
    | .rem => onK k k' (dvN b (.int k (a.tmod b)))
    | .and => onK k k' (some (.int k (andI k a b)))
    | .or => onK k k' (some (.int k (orI k a b)))
    | .xor => onK k k' (some (.int k (xorI k a b)))
    | .andNot => onK k k' (some (.int k (anI k a b)))
    | op => onK k k' ((cmpI op a b).map .bool)
  | .string a, .string b =>
    match op with
    | .eql => some (.bool (decide (a = b)))
    | .neq => some (.bool (!decide (a = b)))
    | .add => catS a b
    | _ => none
  | _, _ => none
def unV (op : UnOp) (x : Value) : Option Value :=
  match op, x with
  | .not, .bool b => some (.bool !b)
  | .neg, .int k n => some (.int k (k.wrap (0 - n)))
  | .xor, .int k n => some (.int k (k.wrap (BitVec.ofInt k.bits (if k.signed then -1 else k.max) ^^^ BitVec.ofInt k.bits n).toNat))
  | _, _ => none
/-- Nil against a pointer, a slice, a map, a function, an interface value: is it nil? -/
def nilV (k : K) (x y : Value) : Option Bool :=
  match k, x, y with
  | .ptr _, .pointer a, .pointer none => some a.isNone
  | .slice _, .slice a _ _, .slice none _ _ => some a.isNone
  | .map _ _, .map a, .map none => some a.isNone
  | .func, .nilFunc, .nilFunc => some true
  | .func, .func .., .nilFunc => some false
  | .bool, .bool a, .bool b => some (decide (a = b))
  | _, _, _ => none
def orO {α : Type} : Option α → Option α → Option α
  | some a, _ => some a
  | none, b => b
/-- Rows of integers, at these places alike? -/
def eqL : List Nat → List Value → List Value → Option Bool
  | [], _, _ => some true
  | o :: os, xs, ys => match xs[o]?, ys[o]? with
    | some (.int k a), some (.int k' b) => (match ikEq k k' with
      | true => (eqL os xs ys).map fun r => decide (a = b) && r
      | false => none)
    | _, _ => none
/-- A struct type of integers alone. -/
def plainS (P : Program) (t : TypeId) : Bool :=
  match P.underlying t with
  | some (.struct fs) => (fs.toList.all fun f => f.name != "_" && (match P.info? f.type, P.underlying f.type with | some _, some (.int _) => true | _, _ => false)) && !P.stoodInHeld t && !P.eqGuardType P.depth t
  | _ => false
def aggV (P : Program) (t : TypeId) (x y : Value) : Option Bool :=
  match x, y with
  | .agg xs, .agg ys => (match plainS P t, (row P t).k with
    | true, .struct fs => eqL (fs.map (·.1)) xs.toList ys.toList
    | _, _ => none)
  | _, _ => none
def eqO (P : Program) (t : TypeId) (x y : Value) : Option Bool := orO (nilV (row P t).k x y) (aggV P t x y)
def eqV (P : Program) (op : BinOp) (t : TypeId) (x y : Value) : Option Value :=
  match op with
  | .eql => (eqO P t x y).map .bool
  | .neq => (eqO P t x y).map fun b => .bool !b
  | _ => none

/-- Function f may be entered. -/
def Ent (P : Program) (f : FuncId) : Prop := ∃ fn, P.funcs[f]? = some fn ∧ (fn.name == "runtime.NumGoroutine") = false ∧ fn.body.isNone = false
def callV (P : Program) (f : FuncId) (args : List Value) (w : World) (K : Value → World → Prop) : Prop :=
  Ent P f ∧ Calls P f args.toArray w fun e w' => ∃ v, e = .returned v ∧ K v w'
/-- The method of a value of an interface. -/
def methV (P : Program) (t : TypeId) (v : Value) (name : String) (w : World) (K : FuncId → Value → Prop) : Prop := ∃ f x, (method (P.types.size + Made.depth) t v name).run P w = .ok (f, x) w ∧ K f x
/-- A call of yield, whose loop's record is block l: the round comes to its end. -/
def yieldV (P : Program) (l : Nat) (args : List Value) (w : World) (K : Value → World → Prop) : Prop :=
  ∃ fn tmps assign body, (Instr.yield l args.toArray).run P w = .ok (.round l fn tmps assign body) w ∧ RoundIn Fence.wide 0 P l fn tmps assign body w fun e w' => ∃ v, e = .returned v ∧ K v w'
def callN (P : Program) (fn : Fn) (args cpt : List Value) (w : World) (K : Value → World → Prop) : Prop :=
  match fn with
  | .func g => callV P g (args ++ cpt) w K
  | .method name => (match args with
    | recv :: rest => isIf recv fun t v => methV P t v name w fun f x => callV P f (x :: rest) w K
    | [] => False)
  | _ => False
def callF (P : Program) (fn : Fn) (args cpt : List Value) (w : World) (K : Value → World → Prop) : Prop :=
  match fn with
  | .yield l => (match cpt with | [] => yieldV P l args w K | _ => False)
  | fn => callN P fn args cpt w K
def runs (P : Program) (s : Sem Value) (w : World) (K : Value → World → Prop) : Prop := ∃ v w', s.run P w = .ok v w' ∧ K v w'
def runsU (P : Program) (s : Sem Unit) (w : World) (K : World → Prop) : Prop := ∃ w', s.run P w = .ok () w' ∧ K w'

def loadC (P : Program) (w : World) (t : TypeId) (a : Addr) (K : Value → Prop) : Prop :=
  match (row P t).agg with
  | true => rd (cellsAt w a (row P t).size) fun cs => K (.agg cs.toArray)
  | false => rd (gd (row P t).k.good) fun _ => rd (w.cell? a) K
def partC (P : Program) (t : TypeId) (cs : List Value) (off : Nat) (K : Value → Prop) : Prop :=
  match (row P t).agg with
  | true => K (.agg ((cs.drop off).take (row P t).size).toArray)
  | false => rd (gd (row P t).k.good) fun _ => rd (cs[off]?) K

def fnId : Fn → Option FuncId
  | .func g => some g
  | _ => none
/-- The builtins that are short: len of a slice, of a string; max, min of two numbers. -/
inductive Short where
  | no | lenS (x : Value) | lenT (x : Value) | mx (x y : Value) | mn (x y : Value)
def bShort (P : Program) (b : Builtin) (ts : List TypeId) (vs : List Value) : Short :=
  match b, ts, vs with
  | .len, [t], [x] => match (row P t).k with | .slice _ => .lenS x | .string => .lenT x | _ => .no
  | .max, [t, _], [x, y] => match (row P t).k with | .int _ => .mx x y | _ => .no
  | .min, [t, _], [x, y] => match (row P t).k with | .int _ => .mn x y | _ => .no
  | _, _, _ => .no
def pickV (t : Bool) (a b : Value) : Value := match t with | true => a | false => b
def nilChk (v : Value) : Option Value :=
  match v with
  | .pointer (some a) => some (.pointer (some a))
  | .func (.func f) fs cs => some (.func (.func f) fs cs)
  | .func (.yield f) fs cs => some (.func (.yield f) fs cs)
  | .iface t v => some (.iface t v)
  | _ => none
def nilA (P : Program) (t : TypeId) (x : Value) (name : String) (w : World) (K : Prop) : Prop := (nilAhead (P.types.size + Made.depth) t x name).run P w = .ok (some false) w ∧ K
def nilCV (P : Program) (v : Value) (w : World) (K : Value → World → Prop) : Prop :=
  match v with
  | .func (.method name) first cpt => (match first.toList with
    | r :: _ => isIf r fun t x => nilA P t x name w (K (.func (.method name) first cpt) w)
    | [] => False)
  | v => rd (nilChk v) fun v => K v w
def opv (P : Program) (N : Nat) (ty : TypeId) (e : Env) (w : World) (K : Value → World → Prop) : Op → Prop
  | .move x => K (ev N e x) w
  | .assign x => K (ev N e x) w
  | .pick c a b => isB (ev N e c) fun t => K (pickV t (ev N e a) (ev N e b)) w
  | .alloc t => rd (row P t).zero fun z => allocC w (.cells z.cells t) fun b w' => K (.pointer (some ⟨b, 0, none⟩)) w'
  | .box t x => rd (gd (sized (row P t) (ev N e x))) fun _ => allocC w (.cells (cellsOf (row P t).agg (ev N e x)).toArray t) fun b w' => K (.pointer (some ⟨b, 0, none⟩)) w'
  | .build t parts =>
    match (row P t).k with
    | .struct fs => rd (gd (fs.all fun f => (row P f.2).k.good)) fun _ => rd (row P t).zero fun z => rd (fillL (fieldPlaces P fs) z.cells.toList (parts.toList.map fun p => (p.1, ev N e p.2))) fun cs => rd (gd (fillOk (fieldPlaces P fs) (parts.toList.map fun p => (p.1, ev N e p.2)))) fun _ => K (.agg cs.toArray) w
    | .array _ el => rd (gd (row P el).k.good) fun _ => rd (row P t).zero fun z => rd (fillL (elemPlaces P el) z.cells.toList (parts.toList.map fun p => (p.1, ev N e p.2))) fun cs => rd (gd (fillOk (elemPlaces P el) (parts.toList.map fun p => (p.1, ev N e p.2)))) fun _ => K (.agg cs.toArray) w
    | _ => False
  | .buildSlice t len parts => runs P (Instr.buildSlice t len (parts.map fun (i, x) => (i, ev N e x))) w K
  | .load t a => isPtr (ev N e a) fun a => loadC P w t a fun v => K v w
  | .store t a x => isPtr (ev N e a) fun a => rd (gd ((row P t).k.good && sized (row P t) (ev N e x))) fun _ => stC w a (cellsOf (row P t).agg (ev N e x)) fun w' => K undef w'
  | .ready g => runsU P (Instr.ready g) w (K undef)
  | .waits g => runs P (Instr.waits g) w K
  | .nilCheck x => nilCV P (ev N e x) w K
  | .binOp op t x y _ => rd (orO (binV op (ev N e x) (ev N e y)) (eqV P op t (ev N e x) (ev N e y))) fun v => K v w
  | .unOp op _ x => rd (unV op (ev N e x)) fun v => K v w
  | .convert s d x => match (row P s).k, (row P d).k with
    | .int _, .int k => isInt (ev N e x) fun _ n => K (.int k (k.wrap n)) w
    | _, _ => runs P (convert s d (ev N e x)) w K
  | .sliceToArrayPointer arr x => runs P (Instr.arrayAt arr (ev N e x)) w K
  | .makeInterface t x => rd (gd (row P t).k.conc) fun _ => K (.iface t (ev N e x)) w
  | .makeFunc fn first captured => K (.func fn (first.toList.map (ev N e)).toArray (captured.toList.map (ev N e)).toArray) w
  | .makeMap t r => match r with
    | none => allocC w (.map #[] 0) fun b w' => K (.map (some b)) w'
    | some x => runs P (Instr.makeMap t (some (ev N e x))) w K
  | .makeChan t s => runs P (Instr.makeChan t (ev N e s)) w K
  | .makeSlice t l c => runs P (Instr.makeSlice t (ev N e l) (ev N e c)) w K
  | .slice t x lo hi mx => runs P (Instr.sliceAt t (ev N e x) (lo.map (ev N e)) (hi.map (ev N e)) (mx.map (ev N e))) w K
  | .fieldAddr s x f => match (row P s).k with
    | .struct fs => isPtr (ev N e x) fun a => rd (fs[f]?) fun fd => rd (gd ((row P fd.2).k.good && Nat.blt 0 (row P fd.2).size)) fun _ => K (.pointer (some (a.add fd.1))) w
    | _ => False
  | .field t x f => match (row P t).k with
    | .struct fs => isCs (ev N e x) fun cs => rd (fs[f]?) fun fd => partC P fd.2 cs fd.1 fun v => K v w
    | _ => False
  | .indexAddr t x ix => match (row P t).k with
    | .slice el => isInt (ev N e ix) fun _ i => isSl (ev N e x) fun a n _ => rd a fun a => rd (gd (row P el).k.good) fun _ => (0 ≤ i ∧ i < n) ∧ K (.pointer (some (a.add (i.toNat * (row P el).size)))) w
    | .array n el => isInt (ev N e ix) fun _ i => isPtr (ev N e x) fun a => rd (gd (row P el).k.good) fun _ => (0 ≤ i ∧ i < n) ∧ K (.pointer (some (a.add (i.toNat * (row P el).size)))) w
    | _ => False
  | .index t x ix => match (row P t).k with
    | .array n el => isInt (ev N e ix) fun _ i => isCs (ev N e x) fun cs => rd (gd (row P el).k.good) fun _ => (0 ≤ i ∧ i < n) ∧ partC P el cs (i.toNat * (row P el).size) fun v => K v w
    | _ => runs P (Instr.index t (ev N e x) (ev N e ix)) w K
  | .lookup t x ix ok => runs P (Instr.lookup t (ev N e x) (ev N e ix) ok) w K
  | .mapUpdate t m k x => runsU P (Instr.mapUpdate t (ev N e m) (ev N e k) (ev N e x)) w (K undef)
  | .insert t m k x => runsU P (Instr.mapUpdate t (ev N e m) (ev N e k) (ev N e x)) w (K undef)
  | .mapEntry t m k => runs P (Instr.mapEntry t (ev N e m) (ev N e k)) w K
  | .entryStore t m s x => runsU P (Instr.entryStore t (ev N e m) (ev N e s) (ev N e x)) w (K undef)
  | .range t x => runs P (Instr.range t (ev N e x)) w K
  | .next it s => runs P (Instr.next (ev N e it) s ty) w K
  | .entry it => runs P (Instr.entry (ev N e it)) w K
  | .typeAssert x t a ok => runs P (Instr.typeAssert (ev N e x) t a ok) w K
  | .extract t ix => isTup (ev N e t) fun vs => rd (vs[ix]?) fun v => K v w
  | .call c =>
    match c.callee with
    | .value f => isFn (ev N e f) fun fn first captured => callN P fn (first ++ c.args.toList.map (ev N e)) captured w K
    | .invoke r name => isIf (ev N e r) fun t v => methV P t v name w fun f x => callV P f (x :: c.args.toList.map (ev N e)) w K
    | .builtin b => (match bShort P b c.argTypes.toList (c.args.toList.map (ev N e)) with
      | .lenS x => isSl x fun _ n _ => K (.int .i64 n) w
      | .lenT x => isStr x fun s => K (.int .i64 s.size) w
      | .mx x y => isInt x fun k a => isInt y fun _ b => K (.int k (max a b)) w
      | .mn x y => isInt x fun k a => isInt y fun _ b => K (.int k (min a b)) w
      | .no => runs P (match b with
        | .append => Builtin.append_ c.argTypes ty (c.args.map (ev N e))
        | .cap => Builtin.cap_ c.argTypes ty (c.args.map (ev N e))
        | .clear => Builtin.clear_ c.argTypes ty (c.args.map (ev N e))
        | .copy => Builtin.copy_ c.argTypes ty (c.args.map (ev N e))
        | .delete => Builtin.delete_ c.argTypes ty (c.args.map (ev N e))
        | .len => Builtin.len_ c.argTypes ty (c.args.map (ev N e))
        | .max => Builtin.max_ c.argTypes ty (c.args.map (ev N e))
        | .min => Builtin.min_ c.argTypes ty (c.args.map (ev N e))
        | _ => stuck "") w K
    )
  | _ => False

end Go.Proofs.Ytlhgibiffekpfaa.VC
