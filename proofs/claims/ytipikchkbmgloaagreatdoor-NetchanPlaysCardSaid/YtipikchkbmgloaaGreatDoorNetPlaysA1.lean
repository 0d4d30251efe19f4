/- What NetPlays needs, part 1 of 13: VC VCSound VCOps.  Conditions: as each part says. -/
import Derived.WalkKit
import Derived.RangeFuncNested
import Derived.RangeFuncLeaves
namespace Go.Proofs.YtipikchkbmgloaaGreatDoor.VC
set_option linter.unusedSimpArgs false
set_option linter.unusedVariables false
open Go Go.RowKit
abbrev Env := Nat → Value
def put (e : Env) (d : Option Nat) (v : Value) : Env :=
  match d with
  | some d => fun s => cond (Nat.beq s d) v (e s)
  | none => e
def ev (n : Nat) (e : Env) : Operand → Value
  | .tmp t => cond (Nat.blt t n) (e t) undef
  | .const v => v
  | .global g => .pointer (some ⟨g, 0, none⟩)
  | .func f => .func (.func f) #[] #[]
def dSlot : Nat := 1000000
def dfOf : Value → List Nat
  | .tuple vs => vs.toList.map fun v => match v with | .pointer (some a) => a.block | _ => 0
  | _ => []
def encD (ds : List Nat) : Value := .tuple (ds.map fun D => .pointer (some ⟨D, 0, none⟩)).toArray
def pushD (D : Nat) (v : Value) : Value := encD (D :: dfOf v)
theorem dfOf_encD (ds : List Nat) : dfOf (encD ds) = ds := by simp [dfOf, encD, Function.comp_def]
theorem dfOf_undef : dfOf undef = [] := rfl
def markD (D : Nat) : Deferred := { target := .collected D, args := #[] }
def act (n : Nat) (e : Env) : Act := ⟨((List.range n).map e).toArray, (dfOf (e dSlot)).map markD⟩
theorem act_get (n : Nat) (e : Env) (t : Nat) : (act n e).tmps[t]? = cond (Nat.blt t n) (some (e t)) none := by
  simp only [act, List.getElem?_toArray, List.getElem?_map]
  cases h : Nat.blt t n with
  | true => rw [Nat.blt_eq] at h; simp [h]
  | false =>
    have h' : ¬ t < n := fun hn => by rw [← Nat.blt_eq] at hn; rw [hn] at h; cases h
    simp [List.getElem?_eq_none (show (List.range n).length ≤ t by simp; omega)]
theorem act_getD (n : Nat) (e : Env) (t : Nat) : (act n e).tmps.getD t undef = cond (Nat.blt t n) (e t) undef := by
  rw [Array.getD_eq_getD_getElem?, act_get]
  cases Nat.blt t n <;> rfl
theorem act_eval (n : Nat) (e : Env) : (act n e).eval = ev n e := by
  funext x
  cases x with
  | tmp t => exact act_getD n e t
  | _ => rfl
theorem act_put (n : Nat) (e : Env) (d : Option Nat) (v : Value) (hd : d ≠ some dSlot) : (act n e).put d v = act n (put e d v) := by
  cases d with
  | none => rfl
  | some d =>
    have hb : Nat.beq dSlot d = false := by
      cases h : Nat.beq dSlot d with
      | false => rfl
      | true => exact absurd (congrArg some (Nat.eq_of_beq_eq_true h).symm) hd
    simp only [act, Act.put, put, Act.mk.injEq, hb, cond_false, and_true]
    rw [List.setIfInBounds_toArray]
    congr 1
    refine List.ext_getElem? fun i => ?_
    by_cases hi : d = i
    · subst hi
      by_cases hn : d < n
      · rw [List.getElem?_set_self (by simpa using hn)]; simp [hn, Nat.beq_refl]
      · rw [List.getElem?_eq_none (by simp; omega), List.getElem?_eq_none (by simp; omega)]
    · rw [List.getElem?_set_ne hi]
      have hb : Nat.beq i d = false := by
        cases h : Nat.beq i d with
        | false => rfl
        | true => exact absurd (Nat.eq_of_beq_eq_true h).symm hi
      by_cases hn : i < n
      · simp [hn, hb]
      · rw [List.getElem?_eq_none (by simp; omega), List.getElem?_eq_none (by simp; omega)]
def mem (s : Nat) : List Nat → Bool
  | [] => false
  | x :: l => cond (Nat.beq s x) true (mem s l)
def ins (s : Nat) : List Nat → List Nat
  | [] => [s]
  | x :: l => cond (Nat.beq s x) (x :: l) (cond (Nat.blt s x) (s :: x :: l) (x :: ins s l))
def uni : List Nat → List Nat → List Nat
  | [], r => r
  | s :: l, r => uni l (ins s r)
theorem mem_ins {s t : Nat} : ∀ {l : List Nat}, (t = s ∨ mem t l = true) → mem t (ins s l) = true := by
  intro l
  induction l with
  | nil => intro h; rcases h with rfl | h; simp [ins, mem, Nat.beq_refl]; cases h
  | cons x l ih =>
    intro h
    simp only [ins]
    cases hx : Nat.beq s x with
    | true =>
      obtain rfl := Nat.eq_of_beq_eq_true hx
      rcases h with rfl | h
      · simp [mem, Nat.beq_refl]
      · exact h
    | false =>
      cases Nat.blt s x with
      | true =>
        rcases h with rfl | h
        · simp [mem, Nat.beq_refl]
        · simp only [cond_true, cond_false, mem]; cases Nat.beq t s <;> first | rfl | exact h
      | false =>
        simp only [cond_false, mem]
        cases htx : Nat.beq t x with
        | true => rfl
        | false =>
          simp only [cond_false]
          refine ih ?_
          rcases h with h | h
          · exact .inl h
          · simp only [mem, htx, cond_false] at h; exact .inr h
theorem mem_uni {t : Nat} : ∀ {l r : List Nat}, (mem t l = true ∨ mem t r = true) → mem t (uni l r) = true := by
  intro l
  induction l with
  | nil => intro r h; rcases h with h | h; cases h; exact h
  | cons s l ih =>
    intro r h
    refine ih ?_
    rcases h with h | h
    · simp only [mem] at h
      cases hs : Nat.beq t s with
      | true => exact .inr (mem_ins (.inl (Nat.eq_of_beq_eq_true hs)))
      | false => rw [hs] at h; exact .inl h
    · exact .inr (mem_ins (.inr h))
theorem mem_ins_elim {s t : Nat} : ∀ {l : List Nat}, mem t (ins s l) = true → t = s ∨ mem t l = true := by
  intro l
  induction l with
  | nil =>
    intro h
    simp only [ins, mem] at h
    cases hb : Nat.beq t s with
    | true => exact .inl (Nat.eq_of_beq_eq_true hb)
    | false => rw [hb] at h; cases h
  | cons x l ih =>
    intro h
    simp only [ins] at h
    cases hx : Nat.beq s x with
    | true => rw [hx] at h; exact .inr h
    | false =>
      rw [hx] at h
      cases hl : Nat.blt s x with
      | true =>
        rw [hl] at h
        simp only [cond_true, cond_false] at h
        rw [mem] at h
        cases hb : Nat.beq t s with
        | true => exact .inl (Nat.eq_of_beq_eq_true hb)
        | false => rw [hb] at h; exact .inr h
      | false =>
        rw [hl] at h
        simp only [cond_false, mem] at h ⊢
        cases htx : Nat.beq t x with
        | true => exact .inr rfl
        | false => rw [htx] at h; exact ih h
theorem mem_uni_elim {t : Nat} : ∀ {l r : List Nat}, mem t (uni l r) = true → mem t l = true ∨ mem t r = true := by
  intro l
  induction l with
  | nil => intro r h; exact .inr h
  | cons s l ih =>
    intro r h
    rcases ih h with h | h
    · refine .inl ?_
      simp only [mem]
      cases Nat.beq t s <;> first | rfl | exact h
    · rcases mem_ins_elim h with rfl | h
      · exact .inl (by simp [mem, Nat.beq_refl])
      · exact .inr h
def Fr (S : List Nat) (e e' : Env) : Prop := ∀ s, mem s S = false → e' s = e s
theorem Fr.refl (S : List Nat) (e : Env) : Fr S e e := fun _ _ => rfl
theorem Fr.trans {S : List Nat} {a b c : Env} (h : Fr S a b) (k : Fr S b c) : Fr S a c := fun s hs => (k s hs).trans (h s hs)
theorem Fr.mono {S S' : List Nat} {a b : Env} (h : Fr S a b) (hS : ∀ s, mem s S = true → mem s S' = true) : Fr S' a b := fun s hs => h s (by
  cases hm : mem s S with
  | false => rfl
  | true => rw [hS s hm] at hs; cases hs)
theorem Fr.put {S : List Nat} {a b : Env} (h : Fr S a b) (d : Option Nat) (v : Value) (hd : ∀ x, d = some x → mem x S = true) : Fr S a (put b d v) := by
  refine h.trans ?_
  cases d with
  | none => exact Fr.refl _ _
  | some d =>
    intro s hs
    simp only [VC.put]
    cases hb : Nat.beq s d with
    | false => rfl
    | true =>
      obtain rfl := Nat.eq_of_beq_eq_true hb
      rw [hd _ rfl] at hs
      cases hs
def havoc (S : List Nat) (u : Nat → Value) (e : Env) : Env := fun s => cond (mem s S) (u s) (e s)
def alist : List (Nat × Value) → Nat → Value
  | [], _ => undef
  | (d, v) :: l, s => cond (Nat.beq s d) v (alist l s)
def pairs (S : List Nat) (e : Env) : List (Nat × Value) := S.map fun s => (s, e s)
def isB (v : Value) (K : Bool → Prop) : Prop := match v with | .bool b => K b | _ => False
def rd {α : Type} (x : Option α) (K : α → Prop) : Prop := match x with | some v => K v | none => False
def isPtr (v : Value) (K : Addr → Prop) : Prop := match v with | .pointer (some a) => K a | _ => False
def isInt (v : Value) (K : IntKind → Int → Prop) : Prop := match v with | .int k i => K k i | _ => False
def isSl (v : Value) (K : Option Addr → Nat → Nat → Prop) : Prop := match v with | .slice a n c => K a n c | _ => False
def isCs (v : Value) (K : List Value → Prop) : Prop := match v with | .agg cs => K cs.toList | _ => False
def isTup (v : Value) (K : List Value → Prop) : Prop := match v with | .tuple cs => K cs.toList | _ => False
def isFn (v : Value) (K : Fn → List Value → List Value → Prop) : Prop := match v with | .func f a c => K f a.toList c.toList | _ => False
def isIf (v : Value) (K : TypeId → Value → Prop) : Prop := match v with | .iface t v => K t v | _ => False
def isStr (v : Value) (K : ByteArray → Prop) : Prop := match v with | .string s => K s | _ => False
def br (t : Bool) (A B : Prop) : Prop := match t with | true => A | false => B
theorem br_iff {t : Bool} {A B : Prop} : br t A B ↔ (t = true → A) ∧ (t = false → B) := by cases t <;> simp [br]
theorem br_of {t : Bool} {A B : Prop} (h1 : t = true → A) (h2 : t = false → B) : br t A B := br_iff.2 ⟨h1, h2⟩
def loopC (e : Nat → Value) (w : World) (B : ((Nat → Value) → World → Prop) → ((Nat → Value) → World → Nat) → Prop) : Prop :=
  ∃ (I : (Nat → Value) → World → Prop) (μ : (Nat → Value) → World → Nat), I e w ∧ B I μ
def again (I : (Nat → Value) → World → Prop) (μ : (Nat → Value) → World → Nat) (e : Nat → Value) (w' : World) (u : Nat → Value) (w : World) : Prop := I e w' ∧ μ e w' < μ u w
def cutC (A : ((Nat → Value) → World → Prop) → Prop) (B : ((Nat → Value) → World → Prop) → Prop) : Prop := ∃ J : (Nat → Value) → World → Prop, A J ∧ B J
def heldC (w : World) (B : (World → Prop) → Prop) : Prop := ∃ S : World → Prop, S w ∧ B S
def allocC (w : World) (o : Obj) (K : Nat → World → Prop) : Prop := ∀ b w', b = w.heap.size → w' = w.alloc o → K b w'
theorem isB_ex {v : Value} {K : Bool → Prop} (h : isB v K) : ∃ b, v = .bool b ∧ K b := by unfold isB at h; split at h; exact ⟨_, rfl, h⟩; exact h.elim
theorem rd_ex {α : Type} {x : Option α} {K : α → Prop} (h : rd x K) : ∃ v, x = some v ∧ K v := by unfold rd at h; split at h; exact ⟨_, rfl, h⟩; exact h.elim
theorem isPtr_ex {v : Value} {K : Addr → Prop} (h : isPtr v K) : ∃ a, v = .pointer (some a) ∧ K a := by unfold isPtr at h; split at h; exact ⟨_, rfl, h⟩; exact h.elim
theorem isInt_ex {v : Value} {K : IntKind → Int → Prop} (h : isInt v K) : ∃ k i, v = .int k i ∧ K k i := by unfold isInt at h; split at h; exact ⟨_, _, rfl, h⟩; exact h.elim
theorem isSl_ex {v : Value} {K : Option Addr → Nat → Nat → Prop} (h : isSl v K) : ∃ a n c, v = .slice a n c ∧ K a n c := by unfold isSl at h; split at h; exact ⟨_, _, _, rfl, h⟩; exact h.elim
theorem isCs_ex {v : Value} {K : List Value → Prop} (h : isCs v K) : ∃ cs : List Value, v = .agg cs.toArray ∧ K cs := by
  unfold isCs at h; split at h
  · rename_i cs; exact ⟨cs.toList, by simp, h⟩
  · exact h.elim
theorem isTup_ex {v : Value} {K : List Value → Prop} (h : isTup v K) : ∃ cs : List Value, v = .tuple cs.toArray ∧ K cs := by
  unfold isTup at h; split at h
  · rename_i cs; exact ⟨cs.toList, by simp, h⟩
  · exact h.elim
theorem isFn_ex {v : Value} {K : Fn → List Value → List Value → Prop} (h : isFn v K) : ∃ f a c, v = .func f a c ∧ K f a.toList c.toList := by unfold isFn at h; split at h; exact ⟨_, _, _, rfl, h⟩; exact h.elim
theorem isStr_ex {v : Value} {K : ByteArray → Prop} (h : isStr v K) : ∃ s, v = .string s ∧ K s := by unfold isStr at h; split at h; exact ⟨_, rfl, h⟩; exact h.elim
theorem isIf_ex {v : Value} {K : TypeId → Value → Prop} (h : isIf v K) : ∃ t x, v = .iface t x ∧ K t x := by unfold isIf at h; split at h; exact ⟨_, _, rfl, h⟩; exact h.elim
theorem rd_of {α : Type} {x : Option α} {v : α} {K : α → Prop} (h : x = some v) (k : K v) : rd x K := by rw [h]; exact k
theorem br_dec {p : Prop} [Decidable p] {A B : Prop} (h1 : p → A) (h2 : ¬ p → B) : br (decide p) A B := br_of (fun h => h1 (of_decide_eq_true h)) (fun h => h2 (of_decide_eq_false h))
theorem br_ndec {p : Prop} [Decidable p] {A B : Prop} (h1 : ¬ p → A) (h2 : p → B) : br (!decide p) A B := br_of (fun h => h1 (by simpa using h)) (fun h => h2 (by simpa using h))
inductive K where
  | bad | bool | int (k : IntKind) | string | ptr (e : TypeId) | slice (e : TypeId) | array (n : Nat) (e : TypeId)
  | map (k e : TypeId) | chan (e : TypeId) | struct (fs : List (Nat × TypeId)) | func | iface | other
def K.good : K → Bool
  | .bad => false
  | _ => true
def K.conc : K → Bool
  | .bad => false
  | .iface => false
  | _ => true
theorem K.good_ne {k : K} (h : k.good = true) : k ≠ .bad := by rintro rfl; cases h
structure TI where
  k : K
  size : Nat
  bytes : Nat
  zero : Option Value
def kOf : TypeDesc → K
  | .bool => .bool | .int k => .int k | .string => .string | .pointer e => .ptr e | .slice e => .slice e | .array n e => .array n e
  | .map k e => .map k e | .chan _ e => .chan e | .struct fs => .struct (fs.toList.map fun f => (f.offset, f.type)) | .func .. => .func
  | .interface _ => .iface | _ => .other
def row (P : Program) (t : TypeId) : TI :=
  match P.info? t, P.underlying t with
  | some i, some d => ⟨kOf d, i.size, i.bytes, i.zero⟩
  | _, _ => ⟨.bad, 0, 0, none⟩
def TI.agg (t : TI) : Bool := match t.k with | .struct _ | .array _ _ => true | _ => false
def cellsAt (w : World) (a : Addr) : Nat → Option (List Value)
  | 0 => some []
  | n + 1 => (cellsAt w a n).bind fun l => (w.cell? (a.add n)).map fun v => l ++ [v]
def canWrite (w : World) (a : Addr) : Nat → List Value → Prop
  | _, [] => True
  | i, v :: vs => (∃ x, w.cell? (a.add i) = some x) ∧ w.frozen? (a.add i) = false ∧ v.oneCell' = true ∧ canWrite (w.setCell (a.add i) v) a (i + 1) vs
def written (w : World) (a : Addr) : Nat → List Value → World
  | _, [] => w
  | i, v :: vs => written (w.setCell (a.add i) v) a (i + 1) vs
def gd (b : Bool) : Option Unit := match b with | true => some () | false => none
theorem gd_some {b : Bool} {u : Unit} (h : gd b = some u) : b = true := by cases b; cases h; rfl
def stC (w : World) (a : Addr) (vs : List Value) (K : World → Prop) : Prop := canWrite w a 0 vs ∧ ∀ w', w' = written w a 0 vs → K w'
def cellsOf (agg : Bool) (v : Value) : List Value := match agg with | true => v.cells.toList | false => [v]
def sized (t : TI) (v : Value) : Bool := match t.agg with | true => v.cells.toList.length == t.size | false => v.oneCell' && (t.size == 1)
def fillL (place : Nat → Option (Nat × TI)) (cells : List Value) : List (Nat × Value) → Option (List Value)
  | [] => some cells
  | (i, v) :: rest =>
    match place i with
    | none => none
    | some (off, t) =>
      match Nat.ble (off + t.size) cells.length with
      | true => fillL place (cells.take off ++ cellsOf t.agg v ++ cells.drop (off + t.size)) rest
      | false => none
def fillOk (place : Nat → Option (Nat × TI)) : List (Nat × Value) → Bool
  | [] => true
  | (i, v) :: rest =>
    match place i with
    | none => false
    | some (_, t) => sized t v && fillOk place rest
def fieldPlaces (P : Program) (fs : List (Nat × TypeId)) (i : Nat) : Option (Nat × TI) := (fs[i]?).map fun f => (f.1, row P f.2)
def elemPlaces (P : Program) (el : TypeId) (i : Nat) : Option (Nat × TI) := some (i * (row P el).size, row P el)
def ikEq : IntKind → IntKind → Bool
  | .i8, .i8 => true | .i16, .i16 => true | .i32, .i32 => true | .i64, .i64 => true
  | .u8, .u8 => true | .u16, .u16 => true | .u32, .u32 => true | .u64, .u64 => true
  | _, _ => false
theorem ikEq_eq {a b : IntKind} (h : ikEq a b = true) : a = b := by cases a <;> cases b <;> first | rfl | cases h
def onK (k k' : IntKind) (v : Option Value) : Option Value := match ikEq k k' with | true => v | false => none
theorem onK_some {k k' : IntKind} {v : Option Value} {u : Value} (h : onK k k' v = some u) : k = k' ∧ v = some u := by
  unfold onK at h
  split at h
  · rename_i hk; exact ⟨ikEq_eq hk, h⟩
  · cases h
def shN (b : Int) (f : Nat → Value) : Option Value := match b with | .ofNat n => some (f n) | .negSucc _ => none
def dvN (b : Int) (v : Value) : Option Value := match b with | .ofNat 0 => none | _ => some v
theorem shN_some {b : Int} {f : Nat → Value} {u : Value} (h : shN b f = some u) : ¬ b < 0 ∧ u = f b.toNat := by
  unfold shN at h
  split at h
  · cases h; exact ⟨by simp, rfl⟩
  · cases h
theorem dvN_some {b : Int} {v u : Value} (h : dvN b v = some u) : b ≠ 0 ∧ u = v := by
  unfold dvN at h
  split at h
  · cases h
  · rename_i hn; cases h; exact ⟨fun e => hn (by subst e; rfl), rfl⟩
def cmpI (op : BinOp) (a b : Int) : Option Bool :=
  match op with
  | .eql => some (decide (a = b)) | .neq => some (!decide (a = b)) | .lss => some (decide (a < b)) | .leq => some (decide (a ≤ b))
  | .gtr => some (decide (b < a)) | .geq => some (decide (b ≤ a)) | _ => none
def andI (k : IntKind) (a b : Int) : Int := k.wrap (BitVec.ofInt k.bits a &&& BitVec.ofInt k.bits b).toNat
def orI (k : IntKind) (a b : Int) : Int := k.wrap (BitVec.ofInt k.bits a ||| BitVec.ofInt k.bits b).toNat
def xorI (k : IntKind) (a b : Int) : Int := k.wrap (BitVec.ofInt k.bits a ^^^ BitVec.ofInt k.bits b).toNat
def anI (k : IntKind) (a b : Int) : Int := k.wrap (BitVec.ofInt k.bits a &&& ~~~ (BitVec.ofInt k.bits b)).toNat
def catS (a b : ByteArray) : Option Value := match Nat.ble (a.size + b.size) 9223372036854775807 with | true => some (.string (a ++ b)) | false => none
theorem catS_some {a b : ByteArray} {v : Value} (h : catS a b = some v) : a.size + b.size ≤ 9223372036854775807 ∧ v = .string (a ++ b) := by
  unfold catS at h
  split at h
  · rename_i hb; cases h; exact ⟨Nat.le_of_ble_eq_true hb, rfl⟩
  · cases h
theorem catS_of {a b : ByteArray} (h : a.size + b.size ≤ 9223372036854775807) : catS a b = some (.string (a ++ b)) := by
  unfold catS; rw [Nat.ble_eq_true_of_le h]
def binV (op : BinOp) (x y : Value) : Option Value :=
  match x, y with
  | .int k a, .int k' b =>
    match op with
    | .shl => shN b fun n => .int k (k.wrap (a * 2 ^ (min n k.bits)))
    | .shr => shN b fun n => .int k (a.fdiv (2 ^ (min n k.bits)))
    | .add => onK k k' (some (.int k (k.wrap (a + b))))
    | .sub => onK k k' (some (.int k (k.wrap (a - b))))
    | .mul => onK k k' (some (.int k (k.wrap (a * b))))
    | .quo => onK k k' (dvN b (.int k (k.wrap (a.tdiv b))))
    | .rem => onK k k' (dvN b (.int k (a.tmod b)))
    | .and => onK k k' (some (.int k (andI k a b)))
    | .or => onK k k' (some (.int k (orI k a b)))
    | .xor => onK k k' (some (.int k (xorI k a b)))
    | .andNot => onK k k' (some (.int k (anI k a b)))
    | op => onK k k' ((cmpI op a b).map .bool)
  | .string a, .string b =>
    match op with
    | .eql => some (.bool (decide (a = b)))
    | .neq => some (.bool (!decide (a = b)))
    | .add => catS a b
    | _ => none
  | _, _ => none
def unV (op : UnOp) (x : Value) : Option Value :=
  match op, x with
  | .not, .bool b => some (.bool !b)
  | .neg, .int k n => some (.int k (k.wrap (0 - n)))
  | .xor, .int k n => some (.int k (k.wrap (BitVec.ofInt k.bits (if k.signed then -1 else k.max) ^^^ BitVec.ofInt k.bits n).toNat))
  | _, _ => none
def nilV (k : K) (x y : Value) : Option Bool :=
  match k, x, y with
  | .ptr _, .pointer a, .pointer none => some a.isNone
  | .slice _, .slice a _ _, .slice none _ _ => some a.isNone
  | .map _ _, .map a, .map none => some a.isNone
  | .func, .nilFunc, .nilFunc => some true
  | .func, .func .., .nilFunc => some false
  | .bool, .bool a, .bool b => some (decide (a = b))
  | _, _, _ => none
def orO {α : Type} : Option α → Option α → Option α
  | some a, _ => some a
  | none, b => b
def eqL : List Nat → List Value → List Value → Option Bool
  | [], _, _ => some true
  | o :: os, xs, ys => match xs[o]?, ys[o]? with
    | some (.int k a), some (.int k' b) => (match ikEq k k' with
      | true => (eqL os xs ys).map fun r => decide (a = b) && r
      | false => none)
    | _, _ => none
def plainS (P : Program) (t : TypeId) : Bool :=
  match P.underlying t with
  | some (.struct fs) => (fs.toList.all fun f => f.name != "_" && (match P.info? f.type, P.underlying f.type with | some _, some (.int _) => true | _, _ => false)) && !P.stoodInHeld t && !P.eqGuardType P.depth t
  | _ => false
def aggV (P : Program) (t : TypeId) (x y : Value) : Option Bool :=
  match x, y with
  | .agg xs, .agg ys => (match plainS P t, (row P t).k with
    | true, .struct fs => eqL (fs.map (·.1)) xs.toList ys.toList
    | _, _ => none)
  | _, _ => none
def eqO (P : Program) (t : TypeId) (x y : Value) : Option Bool := orO (nilV (row P t).k x y) (aggV P t x y)
def eqV (P : Program) (op : BinOp) (t : TypeId) (x y : Value) : Option Value :=
  match op with
  | .eql => (eqO P t x y).map .bool
  | .neq => (eqO P t x y).map fun b => .bool !b
  | _ => none
def Ent (P : Program) (f : FuncId) : Prop := ∃ fn, P.funcs[f]? = some fn ∧ (fn.name == "runtime.NumGoroutine") = false ∧ fn.body.isNone = false
def callV (P : Program) (f : FuncId) (args : List Value) (w : World) (K : Value → World → Prop) : Prop :=
  Ent P f ∧ Calls P f args.toArray w fun e w' => ∃ v, e = .returned v ∧ K v w'
def methV (P : Program) (t : TypeId) (v : Value) (name : String) (w : World) (K : FuncId → Value → Prop) : Prop := ∃ f x, (method (P.types.size + Made.depth) t v name).run P w = .ok (f, x) w ∧ K f x
def yieldV (P : Program) (l : Nat) (args : List Value) (w : World) (K : Value → World → Prop) : Prop :=
  ∃ fn tmps assign body, (Instr.yield l args.toArray).run P w = .ok (.round l fn tmps assign body) w ∧ RoundIn Fence.wide 0 P l fn tmps assign body w fun e w' => ∃ v, e = .returned v ∧ K v w'
def callN (P : Program) (fn : Fn) (args cpt : List Value) (w : World) (K : Value → World → Prop) : Prop :=
  match fn with
  | .func g => callV P g (args ++ cpt) w K
  | .method name => (match args with
    | recv :: rest => isIf recv fun t v => methV P t v name w fun f x => callV P f (x :: rest) w K
    | [] => False)
  | _ => False
def callF (P : Program) (fn : Fn) (args cpt : List Value) (w : World) (K : Value → World → Prop) : Prop :=
  match fn with
  | .yield l => (match cpt with | [] => yieldV P l args w K | _ => False)
  | fn => callN P fn args cpt w K
def runs (P : Program) (s : Sem Value) (w : World) (K : Value → World → Prop) : Prop := ∃ v w', s.run P w = .ok v w' ∧ K v w'
def runsU (P : Program) (s : Sem Unit) (w : World) (K : World → Prop) : Prop := ∃ w', s.run P w = .ok () w' ∧ K w'
def loadC (P : Program) (w : World) (t : TypeId) (a : Addr) (K : Value → Prop) : Prop :=
  match (row P t).agg with
  | true => rd (cellsAt w a (row P t).size) fun cs => K (.agg cs.toArray)
  | false => rd (gd (row P t).k.good) fun _ => rd (w.cell? a) K
def partC (P : Program) (t : TypeId) (cs : List Value) (off : Nat) (K : Value → Prop) : Prop :=
  match (row P t).agg with
  | true => K (.agg ((cs.drop off).take (row P t).size).toArray)
  | false => rd (gd (row P t).k.good) fun _ => rd (cs[off]?) K
def fnId : Fn → Option FuncId
  | .func g => some g
  | _ => none
inductive Short where
  | no | lenS (x : Value) | lenT (x : Value) | mx (x y : Value) | mn (x y : Value)
def bShort (P : Program) (b : Builtin) (ts : List TypeId) (vs : List Value) : Short :=
  match b, ts, vs with
  | .len, [t], [x] => match (row P t).k with | .slice _ => .lenS x | .string => .lenT x | _ => .no
  | .max, [t, _], [x, y] => match (row P t).k with | .int _ => .mx x y | _ => .no
  | .min, [t, _], [x, y] => match (row P t).k with | .int _ => .mn x y | _ => .no
  | _, _, _ => .no
def pickV (t : Bool) (a b : Value) : Value := match t with | true => a | false => b
def nilChk (v : Value) : Option Value :=
  match v with
  | .pointer (some a) => some (.pointer (some a))
  | .func (.func f) fs cs => some (.func (.func f) fs cs)
  | .func (.yield f) fs cs => some (.func (.yield f) fs cs)
  | .iface t v => some (.iface t v)
  | _ => none
def nilA (P : Program) (t : TypeId) (x : Value) (name : String) (w : World) (K : Prop) : Prop := (nilAhead (P.types.size + Made.depth) t x name).run P w = .ok (some false) w ∧ K
def nilCV (P : Program) (v : Value) (w : World) (K : Value → World → Prop) : Prop :=
  match v with
  | .func (.method name) first cpt => (match first.toList with
    | r :: _ => isIf r fun t x => nilA P t x name w (K (.func (.method name) first cpt) w)
    | [] => False)
  | v => rd (nilChk v) fun v => K v w
def opv (P : Program) (N : Nat) (ty : TypeId) (e : Env) (w : World) (K : Value → World → Prop) : Op → Prop
  | .move x => K (ev N e x) w
  | .assign x => K (ev N e x) w
  | .pick c a b => isB (ev N e c) fun t => K (pickV t (ev N e a) (ev N e b)) w
  | .alloc t => rd (row P t).zero fun z => allocC w (.cells z.cells t) fun b w' => K (.pointer (some ⟨b, 0, none⟩)) w'
  | .box t x => rd (gd (sized (row P t) (ev N e x))) fun _ => allocC w (.cells (cellsOf (row P t).agg (ev N e x)).toArray t) fun b w' => K (.pointer (some ⟨b, 0, none⟩)) w'
  | .build t parts =>
    match (row P t).k with
    | .struct fs => rd (gd (fs.all fun f => (row P f.2).k.good)) fun _ => rd (row P t).zero fun z => rd (fillL (fieldPlaces P fs) z.cells.toList (parts.toList.map fun p => (p.1, ev N e p.2))) fun cs => rd (gd (fillOk (fieldPlaces P fs) (parts.toList.map fun p => (p.1, ev N e p.2)))) fun _ => K (.agg cs.toArray) w
    | .array _ el => rd (gd (row P el).k.good) fun _ => rd (row P t).zero fun z => rd (fillL (elemPlaces P el) z.cells.toList (parts.toList.map fun p => (p.1, ev N e p.2))) fun cs => rd (gd (fillOk (elemPlaces P el) (parts.toList.map fun p => (p.1, ev N e p.2)))) fun _ => K (.agg cs.toArray) w
    | _ => False
  | .buildSlice t len parts => runs P (Instr.buildSlice t len (parts.map fun (i, x) => (i, ev N e x))) w K
  | .load t a => isPtr (ev N e a) fun a => loadC P w t a fun v => K v w
  | .store t a x => isPtr (ev N e a) fun a => rd (gd ((row P t).k.good && sized (row P t) (ev N e x))) fun _ => stC w a (cellsOf (row P t).agg (ev N e x)) fun w' => K undef w'
  | .ready g => runsU P (Instr.ready g) w (K undef)
  | .waits g => runs P (Instr.waits g) w K
  | .nilCheck x => nilCV P (ev N e x) w K
  | .binOp op t x y _ => rd (orO (binV op (ev N e x) (ev N e y)) (eqV P op t (ev N e x) (ev N e y))) fun v => K v w
  | .unOp op _ x => rd (unV op (ev N e x)) fun v => K v w
  | .convert s d x => match (row P s).k, (row P d).k with
    | .int _, .int k => isInt (ev N e x) fun _ n => K (.int k (k.wrap n)) w
    | _, _ => runs P (convert s d (ev N e x)) w K
  | .sliceToArrayPointer arr x => runs P (Instr.arrayAt arr (ev N e x)) w K
  | .makeInterface t x => rd (gd (row P t).k.conc) fun _ => K (.iface t (ev N e x)) w
  | .makeFunc fn first captured => K (.func fn (first.toList.map (ev N e)).toArray (captured.toList.map (ev N e)).toArray) w
  | .makeMap t r => match r with
    | none => allocC w (.map #[] 0) fun b w' => K (.map (some b)) w'
    | some x => runs P (Instr.makeMap t (some (ev N e x))) w K
  | .makeChan t s => runs P (Instr.makeChan t (ev N e s)) w K
  | .makeSlice t l c => runs P (Instr.makeSlice t (ev N e l) (ev N e c)) w K
  | .slice t x lo hi mx => runs P (Instr.sliceAt t (ev N e x) (lo.map (ev N e)) (hi.map (ev N e)) (mx.map (ev N e))) w K
  | .fieldAddr s x f => match (row P s).k with
    | .struct fs => isPtr (ev N e x) fun a => rd (fs[f]?) fun fd => rd (gd ((row P fd.2).k.good && Nat.blt 0 (row P fd.2).size)) fun _ => K (.pointer (some (a.add fd.1))) w
    | _ => False
  | .field t x f => match (row P t).k with
    | .struct fs => isCs (ev N e x) fun cs => rd (fs[f]?) fun fd => partC P fd.2 cs fd.1 fun v => K v w
    | _ => False
  | .indexAddr t x ix => match (row P t).k with
    | .slice el => isInt (ev N e ix) fun _ i => isSl (ev N e x) fun a n _ => rd a fun a => rd (gd (row P el).k.good) fun _ => (0 ≤ i ∧ i < n) ∧ K (.pointer (some (a.add (i.toNat * (row P el).size)))) w
    | .array n el => isInt (ev N e ix) fun _ i => isPtr (ev N e x) fun a => rd (gd (row P el).k.good) fun _ => (0 ≤ i ∧ i < n) ∧ K (.pointer (some (a.add (i.toNat * (row P el).size)))) w
    | _ => False
  | .index t x ix => match (row P t).k with
    | .array n el => isInt (ev N e ix) fun _ i => isCs (ev N e x) fun cs => rd (gd (row P el).k.good) fun _ => (0 ≤ i ∧ i < n) ∧ partC P el cs (i.toNat * (row P el).size) fun v => K v w
    | _ => runs P (Instr.index t (ev N e x) (ev N e ix)) w K
  | .lookup t x ix ok => runs P (Instr.lookup t (ev N e x) (ev N e ix) ok) w K
  | .mapUpdate t m k x => runsU P (Instr.mapUpdate t (ev N e m) (ev N e k) (ev N e x)) w (K undef)
  | .insert t m k x => runsU P (Instr.mapUpdate t (ev N e m) (ev N e k) (ev N e x)) w (K undef)
  | .mapEntry t m k => runs P (Instr.mapEntry t (ev N e m) (ev N e k)) w K
  | .entryStore t m s x => runsU P (Instr.entryStore t (ev N e m) (ev N e s) (ev N e x)) w (K undef)
  | .range t x => runs P (Instr.range t (ev N e x)) w K
  | .next it s => runs P (Instr.next (ev N e it) s ty) w K
  | .entry it => runs P (Instr.entry (ev N e it)) w K
  | .typeAssert x t a ok => runs P (Instr.typeAssert (ev N e x) t a ok) w K
  | .extract t ix => isTup (ev N e t) fun vs => rd (vs[ix]?) fun v => K v w
  | .call c =>
    match c.callee with
    | .value f => isFn (ev N e f) fun fn first captured => callN P fn (first ++ c.args.toList.map (ev N e)) captured w K
    | .invoke r name => isIf (ev N e r) fun t v => methV P t v name w fun f x => callV P f (x :: c.args.toList.map (ev N e)) w K
    | .builtin b => (match bShort P b c.argTypes.toList (c.args.toList.map (ev N e)) with
      | .lenS x => isSl x fun _ n _ => K (.int .i64 n) w
      | .lenT x => isStr x fun s => K (.int .i64 s.size) w
      | .mx x y => isInt x fun k a => isInt y fun _ b => K (.int k (max a b)) w
      | .mn x y => isInt x fun k a => isInt y fun _ b => K (.int k (min a b)) w
      | .no => runs P (match b with
        | .append => Builtin.append_ c.argTypes ty (c.args.map (ev N e))
        | .cap => Builtin.cap_ c.argTypes ty (c.args.map (ev N e))
        | .clear => Builtin.clear_ c.argTypes ty (c.args.map (ev N e))
        | .copy => Builtin.copy_ c.argTypes ty (c.args.map (ev N e))
        | .delete => Builtin.delete_ c.argTypes ty (c.args.map (ev N e))
        | .len => Builtin.len_ c.argTypes ty (c.args.map (ev N e))
        | .max => Builtin.max_ c.argTypes ty (c.args.map (ev N e))
        | .min => Builtin.min_ c.argTypes ty (c.args.map (ev N e))
        | _ => stuck "") w K
    )
  | _ => False
end Go.Proofs.YtipikchkbmgloaaGreatDoor.VC
namespace Go.Proofs.YtipikchkbmgloaaGreatDoor.VC
set_option linter.unusedSimpArgs false
set_option linter.unusedVariables false
open Go Go.RowKit
section
variable {P : Program} {w : World}
theorem row_spec {t : TypeId} (h : (row P t).k ≠ .bad) : ∃ i d, P.info? t = some i ∧ P.underlying t = some d ∧ row P t = ⟨kOf d, i.size, i.bytes, i.zero⟩ := by
  unfold row at h ⊢
  split
  · rename_i i d hi hd; exact ⟨i, d, hi, hd, rfl⟩
  · rename_i hn
    split at h
    · rename_i i d hi hd; exact (hn _ _ hi hd).elim
    · exact (h rfl).elim
theorem row_zero {t : TypeId} {z : Value} (h : (row P t).zero = some z) : ∃ i d, P.info? t = some i ∧ P.underlying t = some d ∧ i.zero = some z ∧ row P t = ⟨kOf d, i.size, i.bytes, i.zero⟩ := by
  unfold row at h ⊢
  split
  · rename_i i d hi hd
    simp only [hi, hd] at h
    exact ⟨i, d, hi, hd, h, rfl⟩
  · rename_i hn
    split at h
    · rename_i i d hi hd; exact (hn _ _ hi hd).elim
    · cases h
theorem run_info {t : TypeId} {i : TypeInfo} (h : P.info? t = some i) (w : World) : (typeInfo t).run P w = .ok i w := by simp [typeInfo, h]
theorem run_zero {t : TypeId} {z : Value} {i : TypeInfo} (h : P.info? t = some i) (hz : i.zero = some z) (w : World) : (zeroValue t).run P w = .ok z w := by simp [zeroValue, run_info h, hz]
theorem run_size {t : TypeId} {i : TypeInfo} (h : P.info? t = some i) (w : World) : (sizeOf t).run P w = .ok i.size w := by simp [sizeOf, run_info h]
theorem agg_kOf (d : TypeDesc) (a b : Nat) (z : Option Value) : (TI.mk (kOf d) a b z).agg = match d with | .struct _ | .array _ _ => true | _ => false := by
  cases d <;> rfl
theorem run_agg {t : TypeId} (h : (row P t).k ≠ .bad) (w : World) : (isAgg t).run P w = .ok (row P t).agg w := by
  obtain ⟨i, d, hi, hd, hr⟩ := row_spec h
  rw [hr, agg_kOf]
  unfold isAgg
  simp only [Sem.run_bind, run_underlying hd, Result.andThen_ok]
  cases d <;> rfl
theorem agg_ne_bad {t : TypeId} (h : (row P t).agg = true) : (row P t).k ≠ .bad := by
  intro e; simp [TI.agg, e] at h
theorem cellsAt_length {a : Addr} : ∀ {n : Nat} {cs : List Value}, cellsAt w a n = some cs → cs.length = n ∧ ∀ j v, cs[j]? = some v → w.cell? (a.add j) = some v := by
  intro n
  induction n with
  | zero => intro cs h; simp [cellsAt] at h; subst h; simp
  | succ n ih =>
    intro cs h
    simp only [cellsAt, Option.bind_eq_some_iff, Option.map_eq_some_iff] at h
    obtain ⟨l, hl, v, hv, rfl⟩ := h
    obtain ⟨h1, h2⟩ := ih hl
    refine ⟨by simp [h1], fun j u hu => ?_⟩
    rcases Nat.lt_trichotomy j n with hj | hj | hj
    · rw [List.getElem?_append_left (by omega)] at hu; exact h2 j u hu
    · subst hj; rw [List.getElem?_append_right (by omega)] at hu; simp [h1] at hu; subst hu; exact hv
    · rw [List.getElem?_append_right (by omega)] at hu
      rw [List.getElem?_eq_none (by simp; omega)] at hu; cases hu
theorem loadC_run {t : TypeId} {a : Addr} {K : Value → Prop} (h : loadC P w t a K) : ∃ v, (Instr.loadAt t (.pointer (some a))).run P w = .ok v w ∧ K v := by
  unfold loadC at h
  unfold Instr.loadAt Instr.sureAddr
  simp only [Sem.run_bind, Sem.run_pure, Result.andThen_ok, loadVar]
  split at h
  · rename_i hagg
    obtain ⟨cs, hcs, hK⟩ := rd_ex h
    have hb := agg_ne_bad hagg
    obtain ⟨i, d, hi, hd, hr⟩ := row_spec hb
    obtain ⟨hlen, hcell⟩ := cellsAt_length hcs
    have hsz : (row P t).size = i.size := by rw [hr]
    have hl := run_loadCells_list (P := P) (w := w) a cs hcell
    rw [hlen, hsz] at hl
    refine ⟨.agg cs.toArray, ?_, hK⟩
    rw [run_agg hb, hagg]
    simp [run_size hi, hl]
  · rename_i hagg
    obtain ⟨_, hb, h⟩ := rd_ex h
    obtain ⟨v, hv, hK⟩ := rd_ex h
    refine ⟨v, ?_, hK⟩
    rw [run_agg (VC.K.good_ne (gd_some hb))]
    simp [hagg, hv]
theorem canWrite_run {a : Addr} : ∀ (vs : List Value) (i : Nat) (w : World), canWrite w a i vs → (storeCells a vs i).run P w = .ok () (written w a i vs) := by
  intro vs
  induction vs with
  | nil => intro i w _; simp [storeCells, written]
  | cons v vs ih =>
    intro i w h
    obtain ⟨⟨x, hx⟩, hf, ho, hr⟩ := h
    simp only [storeCells, Sem.run_bind, written]
    rw [run_store _ _ _ _ _ ho, hx]
    simp only [hf, Bool.false_eq_true, if_false, Result.andThen_ok]
    exact ih _ _ hr
theorem store_run {t : TypeId} {a : Addr} {v : Value} (hb : (row P t).k ≠ .bad) (hs : v.cells.size = (row P t).size) (h : canWrite w a 0 v.cells.toList) :
    (Instr.storeAt t (.pointer (some a)) v).run P w = .ok () (written w a 0 v.cells.toList) := by
  obtain ⟨i, d, hi, hd, hr⟩ := row_spec hb
  unfold Instr.storeAt Instr.sureAddr storeVar
  have hsz : v.cells.size = i.size := by rw [hs, hr]
  simp only [Sem.run_bind, Sem.run_pure, Result.andThen_ok, run_size hi, hsz, ne_eq, not_true_eq_false, if_false]
  exact canWrite_run _ _ _ h
theorem partC_run {t : TypeId} {cs : List Value} {off : Nat} {K : Value → Prop} (h : partC P t cs off K) : ∃ v, (part t cs.toArray off).run P w = .ok v w ∧ K v := by
  unfold partC at h
  unfold part
  simp only [Sem.run_bind]
  split at h
  · rename_i hagg
    have hb := agg_ne_bad hagg
    obtain ⟨i, d, hi, hd, hr⟩ := row_spec hb
    have hsz : (row P t).size = i.size := by rw [hr]
    refine ⟨_, ?_, h⟩
    rw [run_agg hb, hagg]
    simp [run_size hi, hsz]
  · rename_i hagg
    obtain ⟨_, hb, h⟩ := rd_ex h
    obtain ⟨v, hv, hK⟩ := rd_ex h
    refine ⟨v, ?_, hK⟩
    rw [run_agg (VC.K.good_ne (gd_some hb))]
    simp [hagg, hv]
theorem byteArray_eq_iff (a b : ByteArray) : a.toList = b.toList ↔ a = b := by
  rw [ByteArray.toList_eq, ByteArray.toList_eq]
  constructor
  · intro h; cases a; cases b; simp at h; subst h; rfl
  · intro h; rw [h]
theorem beq_dec {α : Type} [BEq α] [LawfulBEq α] [DecidableEq α] (a b : α) : (a == b) = decide (a = b) := by
  rw [Bool.eq_iff_iff]; simp
theorem binV_run {op : BinOp} {t : TypeId} {x y v : Value} (h : binV op x y = some v) : (binOp op t x y).run P w = .ok v w := by
  unfold binV at h
  split at h
  · rename_i k a k' b
    cases op <;> simp only at h
    case shl => obtain ⟨hb, rfl⟩ := shN_some h; simp [binOp, Op.shift, hb]
    case shr => obtain ⟨hb, rfl⟩ := shN_some h; simp [binOp, Op.shift, hb]
    case quo | rem => obtain ⟨hk, h2⟩ := onK_some h; subst hk; obtain ⟨hb, rfl⟩ := dvN_some h2; simp [binOp, Op.intDiv, hb]
    case eql | neq | lss | leq | gtr | geq => obtain ⟨hk, h2⟩ := onK_some h; subst hk; simp only [cmpI, Option.map_some, Option.some.injEq] at h2; subst h2; simp [binOp, Op.intCmp, bne, beq_dec]
    all_goals (obtain ⟨hk, h2⟩ := onK_some h; subst hk; cases h2; simp [binOp, Op.intArith, Op.intBits, andI, orI, xorI, anI])
  · rename_i a b
    cases op <;> simp only at h
    case add =>
      obtain ⟨hs, rfl⟩ := catS_some h
      have : ¬ ((a.size + b.size : Nat) : Int) > IntKind.i64.max := by
        have : IntKind.i64.max = 9223372036854775807 := rfl
        omega
      simp only [binOp, Op.stringOp, if_neg this]
      rfl
    all_goals cases h
    · simp [binOp, Op.stringOp, ← byteArray_eq_iff, beq_dec]
    · simp [binOp, Op.stringOp, ← byteArray_eq_iff, beq_dec]
  · cases h
theorem unV_run {op : UnOp} {x v : Value} (h : unV op x = some v) : (Op.unary op x).run P w = .ok v w := by
  unfold unV at h
  split at h <;> first | cases h | skip
  all_goals rfl
theorem nilV_equal (n : Nat) {t : TypeId} {x y : Value} {b : Bool} (h : nilV (row P t).k x y = some b) : (Op.equalIn (n + 1) t x y).run P w = .ok b w := by
  have hb : (row P t).k ≠ .bad := by intro e; rw [e] at h; simp [nilV] at h
  obtain ⟨i, d, hi, hd, hr⟩ := row_spec hb
  rw [hr] at h
  simp only at h
  unfold nilV at h
  split at h
  · rename_i e a hk; cases d <;> simp [kOf] at hk; cases h; cases a <;> simp [Op.equalIn, run_underlying hd]
  · rename_i e a n c n' c' hk; cases d <;> simp [kOf] at hk; cases h; cases a <;> simp [Op.equalIn, run_underlying hd]
  · rename_i k e a hk; cases d <;> simp [kOf] at hk; cases h; cases a <;> simp [Op.equalIn, run_underlying hd]
  · rename_i hk; cases d <;> simp [kOf] at hk; cases h; simp [Op.equalIn, run_underlying hd]
  · rename_i f a c hk; cases d <;> simp [kOf] at hk; cases h; simp [Op.equalIn, run_underlying hd]
  · rename_i a b hk; cases d <;> simp [kOf] at hk; cases h; simp [Op.equalIn, run_underlying hd, beq_dec]
  · cases h
theorem nilV_guard {t : TypeId} {k : K} {x y : Value} {b : Bool} (h : nilV k x y = some b) (op : BinOp) (xo yo : Operand) : (eqGuard op t xo yo x y).run P w = .ok () w := by
  unfold nilV at h
  split at h
  all_goals first | (cases h; done) | skip
  all_goals (unfold eqGuard; split <;> simp)
theorem eqL_run (n : Nat) {xs ys : Array Value} : ∀ (fs : List Field) {b : Bool}, (fs.all fun f => f.name != "_" && (match P.info? f.type, P.underlying f.type with | some _, some (.int _) => true | _, _ => false)) = true →
    eqL (fs.map (·.offset)) xs.toList ys.toList = some b →
    (Sem.run P (forIn fs ((none, ()) : Option Bool × Unit) fun f _ =>
      if f.name = "_" then pure (ForInStep.yield (none, ()))
      else do
        let x ← part f.type xs f.offset
        let y ← part f.type ys f.offset
        let r ← Op.equalIn (n + 1) f.type x y
        if r = false then pure (ForInStep.done (some false, ())) else pure (ForInStep.yield (none, ()))) w) = .ok ((if b then none else some false), ()) w := by
  intro fs
  induction fs with
  | nil => intro b _ h; simp only [List.map_nil, eqL, Option.some.injEq] at h; subst h; simp
  | cons f fs ih =>
    intro b hf h
    simp only [List.all_cons, Bool.and_eq_true, bne_iff_ne, ne_eq] at hf
    obtain ⟨⟨hn, hi⟩, hr⟩ := hf
    split at hi
    · rename_i inf kk hinf hu
      simp only [List.map_cons, eqL] at h
      split at h
      · rename_i k a k' b' hx hy
        split at h
        · rename_i hk
          obtain rfl := ikEq_eq hk
          simp only [Option.map_eq_some_iff] at h
          obtain ⟨r, hr', rfl⟩ := h
          have hrow : (row P f.type).agg = false ∧ (row P f.type).k ≠ .bad := by
            unfold row
            rw [hinf, hu]
            exact ⟨rfl, by simp [kOf]⟩
          have hx' : xs[f.offset]? = some (.int k a) := by rw [← hx]; exact (Array.getElem?_toList ..).symm
          have hy' : ys[f.offset]? = some (.int k b') := by rw [← hy]; exact (Array.getElem?_toList ..).symm
          have hpx : (part f.type xs f.offset).run P w = .ok (.int k a) w := by
            simp [part, run_agg hrow.2, hrow.1, hx']
          have hpy : (part f.type ys f.offset).run P w = .ok (.int k b') w := by
            simp [part, run_agg hrow.2, hrow.1, hy']
          have he : (Op.equalIn (n + 1) f.type (.int k a) (.int k b')).run P w = .ok (decide (a = b')) w := by
            simp [Op.equalIn, run_underlying hu, beq_dec]
          rw [List.forIn_cons]
          simp only [hn, if_false, Sem.run_bind, hpx, hpy, he, Result.andThen_ok]
          by_cases hab : a = b'
          · simp only [hab, decide_true, Bool.true_and, Bool.true_eq_false, if_false, Sem.run_pure, Result.andThen_ok]
            exact ih hr hr'
          · simp only [hab, decide_false, Bool.false_and, if_true, Sem.run_pure, Result.andThen_ok]
            rfl
        · cases h
      · cases h
    · cases hi
theorem aggV_equal (n : Nat) {t : TypeId} {x y : Value} {b : Bool} (h : aggV P t x y = some b) : (Op.equalIn (n + 2) t x y).run P w = .ok b w := by
  unfold aggV at h
  split at h
  · rename_i xs ys
    split at h
    · rename_i fs hp hk
      unfold plainS at hp
      split at hp
      · rename_i d hu
        simp only [Bool.and_eq_true, Bool.not_eq_true'] at hp
        obtain ⟨⟨ha, hs⟩, hg⟩ := hp
        have hne : (row P t).k ≠ .bad := by rw [hk]; simp
        obtain ⟨i, d', hi, hd, hr⟩ := row_spec hne
        rw [hu] at hd; cases hd
        rw [hr] at hk
        simp only [kOf, K.struct.injEq] at hk
        rw [← hk, List.map_map] at h
        have := eqL_run (P := P) (w := w) n d.toList ha (b := b) (by rw [← h]; rfl)
        rw [Array.forIn_toList] at this
        rw [Op.equalIn]
        simp only [Sem.run_bind, run_underlying hu, Result.andThen_ok]
        simp [hs]
        rw [this]
        cases b <;> simp
      · cases hp
    · cases h
  · cases h
theorem eqO_equal {t : TypeId} {x y : Value} {b : Bool} (h : eqO P t x y = some b) : (Op.equal t x y).run P w = .ok b w := by
  unfold eqO at h
  cases hn : nilV (row P t).k x y with
  | none => rw [hn] at h; exact aggV_equal 9998 h
  | some b' => rw [hn] at h; cases h; exact nilV_equal 9999 hn
theorem eqO_guard {t : TypeId} {x y : Value} {b : Bool} (h : eqO P t x y = some b) (op : BinOp) (xo yo : Operand) : (eqGuard op t xo yo x y).run P w = .ok () w := by
  unfold eqO at h
  cases hn : nilV (row P t).k x y with
  | some b' => exact nilV_guard hn op xo yo
  | none =>
    rw [hn] at h
    change aggV P t x y = some b at h
    unfold aggV at h
    split at h
    · split at h
      · rename_i fs hp hk
        unfold plainS at hp
        split at hp
        · simp only [Bool.and_eq_true, Bool.not_eq_true'] at hp
          unfold eqGuard
          split <;> simp [hp.2]
        · cases hp
      · cases h
    · cases h
theorem eqO_bin {op : BinOp} {t : TypeId} {x y : Value} {b : Bool} (h : eqO P t x y = some b) : (binOp .eql t x y).run P w = .ok (.bool b) w ∧ (binOp .neq t x y).run P w = .ok (.bool !b) w := by
  have he := eqO_equal (w := w) h
  unfold eqO at h
  cases hn : nilV (row P t).k x y with
  | some b' =>
    unfold nilV at hn
    split at hn
    all_goals first | (cases hn; done) | skip
    all_goals exact ⟨by simp only [binOp, Sem.run_bind, he, Result.andThen_ok, Sem.run_pure], by simp only [binOp, Sem.run_bind, he, Result.andThen_ok, Sem.run_pure]⟩
  | none =>
    rw [hn] at h
    change aggV P t x y = some b at h
    unfold aggV at h
    split at h
    · exact ⟨by simp only [binOp, Sem.run_bind, he, Result.andThen_ok, Sem.run_pure], by simp only [binOp, Sem.run_bind, he, Result.andThen_ok, Sem.run_pure]⟩
    · cases h
theorem nilV_run {op : BinOp} {t : TypeId} {x y v : Value} (xo yo : Operand) (h : eqV P op t x y = some v) :
    (do eqGuard op t xo yo x y; binOp op t x y : Sem Value).run P w = .ok v w := by
  unfold eqV at h
  cases op <;> simp only [Option.map_eq_some_iff] at h
  all_goals first | (cases h; done) | skip
  all_goals
    obtain ⟨b, hb, rfl⟩ := h
    simp only [Sem.run_bind, eqO_guard (w := w) hb, Result.andThen_ok]
  · exact (eqO_bin (op := .eql) hb).1
  · exact (eqO_bin (op := .eql) hb).2
theorem eqGuard_binV {op : BinOp} {t : TypeId} {x y v : Value} (xo yo : Operand) (h : binV op x y = some v) : (eqGuard op t xo yo x y).run P w = .ok () w := by
  unfold binV at h
  split at h
  · unfold eqGuard; split <;> simp
  · unfold eqGuard; split <;> simp
  · cases h
theorem bin_run {op : BinOp} {t : TypeId} {x y v : Value} (xo yo : Operand) (h : orO (binV op x y) (eqV P op t x y) = some v) :
    (do eqGuard op t xo yo x y; binOp op t x y : Sem Value).run P w = .ok v w := by
  cases hb : binV op x y with
  | none => rw [hb] at h; exact nilV_run xo yo h
  | some u =>
    rw [hb] at h
    cases h
    simp only [Sem.run_bind, eqGuard_binV xo yo hb, Result.andThen_ok]
    exact binV_run hb
end
end Go.Proofs.YtipikchkbmgloaaGreatDoor.VC
namespace Go.Proofs.YtipikchkbmgloaaGreatDoor.VC
set_option linter.unusedSimpArgs false
set_option linter.unusedVariables false
open Go Go.RowKit
section
variable {P : Program} {w : World} {N : Nat}
def quietOp : Op → Bool
  | .store .. | .ready _ | .mapUpdate .. | .insert .. | .entryStore .. => false
  | .call { callee := .builtin _, .. } => true
  | .call _ => false
  | _ => true
def Out (quiet : Bool) (P : Program) (w : World) (K : Value → World → Prop) (r : Result Next) : Prop :=
  (∃ v w', r = .ok (.value v) w' ∧ K v w') ∨ (quiet = false ∧ ((∃ w', r = .ok .skip w' ∧ K undef w') ∨ ∃ f args, r = .ok (.enter f args) w ∧ Calls P f args w fun e w' => ∃ v, e = .returned v ∧ K v w'))
theorem out_v {q : Bool} {K : Value → World → Prop} {r : Result Next} {v : Value} {w' : World} (hr : r = .ok (.value v) w') (h : K v w') : Out q P w K r := .inl ⟨_, _, hr, h⟩
theorem out_u {K : Value → World → Prop} {r : Result Next} {w' : World} (hr : r = .ok .skip w') (h : K undef w') : Out false P w K r := .inr ⟨rfl, .inl ⟨_, hr, h⟩⟩
theorem out_c {q : Bool} (hq : q = false) {K : Value → World → Prop} {r : Result Next} {f : FuncId} {args : Array Value} (hr : r = .ok (.enter f args) w) (h : Calls P f args w fun e w' => ∃ v, e = .returned v ∧ K v w') : Out q P w K r := .inr ⟨hq, .inr ⟨_, _, hr, h⟩⟩
theorem run_v {s : Sem Value} {v : Value} {w' : World} (h : s.run P w = .ok v w') : (do pure (.value (← s)) : Sem Next).run P w = .ok (.value v) w' := by simp [h]
theorem run_u {s : Sem Unit} {w' : World} (h : s.run P w = .ok () w') : (do s; pure .skip : Sem Next).run P w = .ok .skip w' := by simp [h]
theorem fieldAt_run {s : TypeId} {fs : List (Nat × TypeId)} {f : Nat} {fd : Nat × TypeId} {a : Addr} (hk : (row P s).k = .struct fs) (hf : fs[f]? = some fd) (hb : (row P fd.2).k ≠ .bad) (hz : (row P fd.2).size ≠ 0) :
    (Instr.fieldAt s (.pointer (some a)) f).run P w = .ok (.pointer (some (a.add fd.1))) w := by
  obtain ⟨i, d, hi, hd, hr⟩ := row_spec (P := P) (t := s) (by rw [hk]; simp)
  rw [hr] at hk
  cases d <;> simp [kOf] at hk
  rename_i fields
  subst hk
  simp only [List.getElem?_map, Option.map_eq_some_iff] at hf
  obtain ⟨g, hg, rfl⟩ := hf
  obtain ⟨i', d', hi', hd', hr'⟩ := row_spec hb
  rw [hr'] at hz
  simp only at hz
  have hg' : fields[f]? = some g := by simpa using hg
  simp [Instr.fieldAt, run_underlying hd, hg', Instr.sureAddr, fieldPlace, run_size hi', hz]
theorem field_run {t : TypeId} {fs : List (Nat × TypeId)} {f : Nat} {fd : Nat × TypeId} {cs : List Value} {K : Value → Prop} (hk : (row P t).k = .struct fs) (hf : fs[f]? = some fd) (h : partC P fd.2 cs fd.1 K) :
    ∃ v, (Instr.field t (.agg cs.toArray) f).run P w = .ok v w ∧ K v := by
  obtain ⟨i, d, hi, hd, hr⟩ := row_spec (P := P) (t := t) (by rw [hk]; simp)
  rw [hr] at hk
  cases d <;> simp [kOf] at hk
  rename_i fields
  subst hk
  simp only [List.getElem?_map, Option.map_eq_some_iff] at hf
  obtain ⟨g, hg, rfl⟩ := hf
  have hg' : fields[f]? = some g := by simpa using hg
  obtain ⟨v, hv, hK⟩ := partC_run (w := w) h
  exact ⟨v, by simp [Instr.field, run_underlying hd, hg', asAgg, hv], hK⟩
theorem indexAt_slice {t el : TypeId} {k : IntKind} {i : Int} {a : Addr} {n c : Nat} (hk : (row P t).k = .slice el) (hb : (row P el).k ≠ .bad) (h0 : 0 ≤ i) (hn : i < n) :
    (Instr.indexAt t (.slice (some a) n c) (.int k i)).run P w = .ok (.pointer (some (a.add (i.toNat * (row P el).size)))) w := by
  obtain ⟨_, d, _, hd, hr⟩ := row_spec (P := P) (t := t) (by rw [hk]; simp)
  rw [hr] at hk
  cases d <;> simp [kOf] at hk
  subst hk
  obtain ⟨i', d', hi', hd', hr'⟩ := row_spec hb
  simp [Instr.indexAt, asIntOf, run_underlying hd, h0, hn, run_size hi', hr']
theorem indexAt_array {t el : TypeId} {k : IntKind} {i : Int} {a : Addr} {n : Nat} (hk : (row P t).k = .array n el) (hb : (row P el).k ≠ .bad) (h0 : 0 ≤ i) (hn : i < n) :
    (Instr.indexAt t (.pointer (some a)) (.int k i)).run P w = .ok (.pointer (some (a.add (i.toNat * (row P el).size)))) w := by
  obtain ⟨_, d, _, hd, hr⟩ := row_spec (P := P) (t := t) (by rw [hk]; simp)
  rw [hr] at hk
  cases d <;> simp [kOf] at hk
  obtain ⟨rfl, rfl⟩ := hk
  obtain ⟨i', d', hi', hd', hr'⟩ := row_spec hb
  simp [Instr.indexAt, Instr.sureAddr, asIntOf, run_underlying hd, h0, hn, run_size hi', hr']
theorem index_array {t el : TypeId} {k : IntKind} {i : Int} {cs : List Value} {n : Nat} {K : Value → Prop} (hk : (row P t).k = .array n el) (hb : (row P el).k ≠ .bad) (h0 : 0 ≤ i) (hn : i < n)
    (h : partC P el cs (i.toNat * (row P el).size) K) : ∃ v, (Instr.index t (.agg cs.toArray) (.int k i)).run P w = .ok v w ∧ K v := by
  obtain ⟨_, d, _, hd, hr⟩ := row_spec (P := P) (t := t) (by rw [hk]; simp)
  rw [hr] at hk
  cases d <;> simp [kOf] at hk
  obtain ⟨rfl, rfl⟩ := hk
  obtain ⟨i', d', hi', hd', hr'⟩ := row_spec hb
  obtain ⟨v, hv, hK⟩ := partC_run (w := w) h
  rw [hr'] at hv
  exact ⟨v, by simp [Instr.index, asIntOf, run_underlying hd, h0, hn, run_size hi', hv], hK⟩
theorem makeIface_run {t : TypeId} {x : Value} (hb : (row P t).k ≠ .bad) (hi : (row P t).k ≠ .iface) : (Instr.makeInterface t x).run P w = .ok (.iface t x) w := by
  obtain ⟨_, d, _, hd, hr⟩ := row_spec hb
  rw [hr] at hi
  unfold Instr.makeInterface
  simp only [Sem.run_bind, run_underlying hd, Result.andThen_ok]
  cases d <;> first | (simp [kOf] at hi; done) | rfl
theorem convert_int {s d : TypeId} {k k' k'' : IntKind} {n : Int} (hs : (row P s).k = .int k) (hd : (row P d).k = .int k') : (convert s d (.int k'' n)).run P w = .ok (.int k' (k'.wrap n)) w := by
  obtain ⟨_, ds, _, hds, hr⟩ := row_spec (P := P) (t := s) (by rw [hs]; simp)
  obtain ⟨_, dd, _, hdd, hr'⟩ := row_spec (P := P) (t := d) (by rw [hd]; simp)
  rw [hr] at hs; rw [hr'] at hd
  cases ds <;> simp [kOf] at hs
  cases dd <;> simp [kOf] at hd
  subst hs hd
  simp [convert, run_underlying hds, run_underlying hdd, Conv.intToInt]
theorem sized_cells {t : TI} {v : Value} (h : sized t v = true) : v.cells.toList = cellsOf t.agg v ∧ v.cells.size = t.size := by
  unfold sized at h
  unfold cellsOf
  split at h
  · simp only [beq_iff_eq, Array.length_toList] at h; exact ⟨rfl, h⟩
  · simp only [Bool.and_eq_true, beq_iff_eq] at h
    cases v <;> simp [Value.oneCell'] at h <;> exact ⟨rfl, h.symm⟩
theorem fillL_fill (place : Nat → Option (Nat × TI)) : ∀ (parts : List (Nat × Value)) (cells : List Value) {r : List Value}, fillL place cells parts = some r → fillOk place parts = true →
    Instr.fill (fun i => (place i).map fun p => (p.1, p.2.size)) cells.toArray parts = some r.toArray := by
  intro parts
  induction parts with
  | nil => intro cells r h _; simp [fillL] at h; subst h; simp [Instr.fill]
  | cons p parts ih =>
    obtain ⟨i, v⟩ := p
    intro cells r h hok
    unfold fillL at h
    unfold fillOk at hok
    unfold Instr.fill
    cases hp : place i with
    | none => simp only [hp] at h; cases h
    | some os =>
      obtain ⟨off, t⟩ := os
      simp only [hp, Bool.and_eq_true] at h hok
      simp only [Option.map_some]
      split at h
      case h_2 => cases h
      · rename_i hn
        simp only [Nat.ble_eq] at hn
        obtain ⟨h0, h1⟩ := sized_cells hok.1
        have h2 : ¬ off + t.size > cells.length := by omega
        rw [if_neg (by simp [h1]; omega)]
        rw [← h0] at h
        generalize t.size = size at h h1 h2 hn ⊢
        have hok := hok.2
        rw [← ih _ h hok]
        congr 1
        subst h1
        clear ih h hn h0
        have key : ∀ (l : List Value) (j : Nat) (cs : List Value), off + j + l.length ≤ cs.length →
            (l.zipIdx j).foldl (fun (cs : Array Value) (x : Value × Nat) => cs.setIfInBounds (off + x.2) x.1) cs.toArray = (cs.take (off + j) ++ l ++ cs.drop (off + j + l.length)).toArray := by
          intro l
          induction l with
          | nil => intro j cs _; simp
          | cons x l ih =>
            intro j cs hl
            simp only [List.zipIdx_cons, List.foldl_cons, List.setIfInBounds_toArray]
            simp only [List.length_cons] at hl
            rw [ih (j + 1) (cs.set (off + j) x) (by simp; omega)]
            congr 1
            rw [show off + (j + 1) = off + j + 1 from by omega, List.take_succ_eq_append_getElem (by simp; omega), List.take_set_of_le (by omega), List.getElem_set_self, List.drop_set_of_lt (by omega)]
            simp only [List.length_cons, List.append_assoc, List.cons_append, List.nil_append]
            rw [show off + j + 1 + l.length = off + j + (l.length + 1) from by omega]
        have := key v.cells.toList 0 cells (by simp; omega)
        simp only [Nat.add_zero, Array.length_toList] at this
        rw [← this, ← Array.foldl_toList, Array.toList_zipIdx]
theorem mapM_places (fields : Array Field) : ∀ (w : World), (∀ f ∈ fields, (row P f.type).k ≠ .bad) → 
    (fields.mapM fun f => do pure (f.offset, ← sizeOf f.type) : Sem (Array (Nat × Nat))).run P w = .ok (fields.map fun f => (f.offset, (row P f.type).size)) w := by
  intro w h
  rw [Array.mapM_eq_mapM_toList]
  have key : ∀ (l : List Field), (∀ f ∈ l, (row P f.type).k ≠ .bad) → (l.mapM fun f => do pure (f.offset, ← sizeOf f.type) : Sem (List (Nat × Nat))).run P w = .ok (l.map fun f => (f.offset, (row P f.type).size)) w := by
    intro l
    induction l with
    | nil => intro _; simp
    | cons f l ih =>
      intro hl
      obtain ⟨i, d, hi, hd, hr⟩ := row_spec (hl f (by simp))
      have hih := ih (fun g hg => hl g (by simp [hg]))
      simp only [List.mapM_cons, Sem.run_bind, run_size hi, Result.andThen_ok, Sem.run_pure, hih]
      simp [hr]
  have := key fields.toList (fun f hf => h f (by simpa using hf))
  simp only [Sem.run_map, this, Result.andThen_ok]
  congr 1
  apply Array.ext'
  simp
theorem build_struct {t : TypeId} {fs : List (Nat × TypeId)} {z : Value} {parts : List (Nat × Value)} {cs : List Value} (hk : (row P t).k = .struct fs) (hb : ∀ f ∈ fs, (row P f.2).k ≠ .bad) (hz : (row P t).zero = some z)
    (hf : fillL (fieldPlaces P fs) z.cells.toList parts = some cs) (hok : fillOk (fieldPlaces P fs) parts = true) : (Instr.build t parts.toArray).run P w = .ok (.agg cs.toArray) w := by
  obtain ⟨i, d, hi, hd, hzz, hr⟩ := row_zero hz
  rw [hr] at hk
  cases d <;> simp [kOf] at hk
  rename_i fields
  subst hk
  have hpl := mapM_places (P := P) fields w (fun f hf => by have := hb (f.offset, f.type) (by simp; exact ⟨f, hf, rfl, rfl⟩); exact this)
  have hfill := fillL_fill _ _ _ hf hok
  have hp : (fun x => (fields.map fun f => (f.offset, (row P f.type).size))[x]?) = fun i => (fieldPlaces P (fields.toList.map fun f => (f.offset, f.type)) i).map fun p => (p.1, p.2.size) := by
    funext x
    simp [fieldPlaces, Option.map_map, Function.comp_def]
  unfold Instr.build
  simp only [Sem.run_bind, run_zero hi hzz, Result.andThen_ok, run_underlying hd]
  simp only [hpl, Result.andThen_ok]
  rw [hp]
  have h2 : Instr.fill (fun i => (fieldPlaces P (List.map (fun f => (f.offset, f.type)) fields.toList) i).map fun p => (p.1, p.2.size)) z.cells parts = some cs.toArray := by simpa using hfill
  rw [h2]
  rfl
theorem build_array {t el : TypeId} {n : Nat} {z : Value} {parts : List (Nat × Value)} {cs : List Value} (hk : (row P t).k = .array n el) (hb : (row P el).k ≠ .bad) (hz : (row P t).zero = some z)
    (hf : fillL (elemPlaces P el) z.cells.toList parts = some cs) (hok : fillOk (elemPlaces P el) parts = true) : (Instr.build t parts.toArray).run P w = .ok (.agg cs.toArray) w := by
  obtain ⟨i, d, hi, hd, hzz, hr⟩ := row_zero hz
  rw [hr] at hk
  cases d <;> simp [kOf] at hk
  obtain ⟨rfl, rfl⟩ := hk
  obtain ⟨i', d', hi', hd', hr'⟩ := row_spec hb
  have hfill := fillL_fill _ _ _ hf hok
  simp only [elemPlaces, Option.map_some, hr'] at hfill
  unfold Instr.build
  simp only [Sem.run_bind, run_zero hi hzz, Result.andThen_ok, run_underlying hd, run_size hi']
  have h2 : Instr.fill (fun i => some (i * i'.size, i'.size)) z.cells parts = some cs.toArray := by simpa using hfill
  rw [h2]
  rfl
theorem callV_run {f : FuncId} {args : List Value} {K : Value → World → Prop} (h : callV P f args w K) : (callFunc f args.toArray).run P w = .ok (.enter f args.toArray) w ∧ Calls P f args.toArray w fun e w' => ∃ v, e = .returned v ∧ K v w' := by
  obtain ⟨⟨fn, hf, hn, hb⟩, hc⟩ := h
  refine ⟨?_, hc⟩
  simp only [callFunc, Sem.run_bind, run_program, Result.andThen_ok, hf, hn, hb, Bool.false_eq_true, if_false, Sem.run_pure]
theorem bShort_lenS {b : Builtin} {ts : List TypeId} {vs : List Value} {x : Value} (h : bShort P b ts vs = .lenS x) : b = .len ∧ ∃ t, ts = [t] ∧ vs = [x] ∧ ∃ el, (row P t).k = .slice el := by
  unfold bShort at h
  split at h
  · split at h <;> first | (cases h; done) | (cases h; exact ⟨rfl, _, rfl, rfl, _, by assumption⟩)
  · split at h <;> cases h
  · split at h <;> cases h
  · cases h
theorem bShort_lenT {b : Builtin} {ts : List TypeId} {vs : List Value} {x : Value} (h : bShort P b ts vs = .lenT x) : b = .len ∧ ∃ t, ts = [t] ∧ vs = [x] ∧ (row P t).k = .string := by
  unfold bShort at h
  split at h
  · split at h <;> first | (cases h; done) | (cases h; exact ⟨rfl, _, rfl, rfl, by assumption⟩)
  · split at h <;> cases h
  · split at h <;> cases h
  · cases h
theorem bShort_mx {b : Builtin} {ts : List TypeId} {vs : List Value} {x y : Value} (h : bShort P b ts vs = .mx x y) : b = .max ∧ vs = [x, y] := by
  unfold bShort at h
  split at h
  · split at h <;> cases h
  · split at h <;> first | (cases h; done) | (cases h; exact ⟨rfl, rfl⟩)
  · split at h <;> cases h
  · cases h
theorem bShort_mn {b : Builtin} {ts : List TypeId} {vs : List Value} {x y : Value} (h : bShort P b ts vs = .mn x y) : b = .min ∧ vs = [x, y] := by
  unfold bShort at h
  split at h
  · split at h <;> cases h
  · split at h <;> cases h
  · split at h <;> first | (cases h; done) | (cases h; exact ⟨rfl, rfl⟩)
  · cases h
theorem opv_out {o : Oper} {e : Env} {K : Value → World → Prop} (h : opv P N o.type e w K o.op) : Out (quietOp o.op) P w K ((execOp (ev N e) o).run P w) := by
  unfold execOp
  cases hop : o.op with
  | move x => rw [hop] at h; exact out_v rfl h
  | assign x => rw [hop] at h; exact out_v rfl h
  | pick c a b =>
    rw [hop] at h
    obtain ⟨t, ht, h⟩ := isB_ex h
    exact out_v (v := pickV t (ev N e a) (ev N e b)) (w' := w) (by cases t <;> simp [ht, asBool, pickV]) h
  | alloc t =>
    rw [hop] at h
    obtain ⟨z, hz, h⟩ := rd_ex h
    obtain ⟨i, d, hi, hd, hzz, hr⟩ := row_zero hz
    exact out_v (run_v (by simp [Instr.alloc, run_zero hi hzz, newVar, newRow])) (h _ _ rfl rfl)
  | box t x =>
    rw [hop] at h
    obtain ⟨_, hb, h⟩ := rd_ex h
    obtain ⟨h0, h1⟩ := sized_cells (gd_some hb)
    rw [← h0] at h
    exact out_v (run_v (by simp [Instr.box, newVar, newRow])) (h _ _ rfl rfl)
  | build t parts =>
    rw [hop] at h
    simp only [opv] at h
    have hp : (parts.map fun x => (x.1, ev N e x.2)) = (parts.toList.map fun p => (p.1, ev N e p.2)).toArray := by apply Array.ext'; simp
    split at h
    · rename_i fs hk
      obtain ⟨_, hb, h⟩ := rd_ex h
      obtain ⟨z, hz, h⟩ := rd_ex h
      obtain ⟨cs, hcs, h⟩ := rd_ex h
      obtain ⟨_, hok, h⟩ := rd_ex h
      refine out_v (run_v ?_) h
      rw [hp]
      exact build_struct hk (fun f hf => VC.K.good_ne (by simpa using (List.all_eq_true.1 (gd_some hb)) f hf)) hz hcs (gd_some hok)
    · rename_i el hk
      obtain ⟨_, hb, h⟩ := rd_ex h
      obtain ⟨z, hz, h⟩ := rd_ex h
      obtain ⟨cs, hcs, h⟩ := rd_ex h
      obtain ⟨_, hok, h⟩ := rd_ex h
      refine out_v (run_v ?_) h
      rw [hp]
      exact build_array hk (VC.K.good_ne (gd_some hb)) hz hcs (gd_some hok)
    · exact h.elim
  | buildSlice t len parts => rw [hop] at h; obtain ⟨v, w', hr, h⟩ := h; exact out_v (run_v hr) h
  | insert t m k x => rw [hop] at h; obtain ⟨w', hr, h⟩ := h; exact out_u (run_u hr) h
  | load t a =>
    rw [hop] at h
    obtain ⟨ad, ha, h⟩ := isPtr_ex h
    obtain ⟨v, hv, h⟩ := loadC_run h
    exact out_v (run_v (by rw [ha]; exact hv)) h
  | store t a x =>
    rw [hop] at h
    obtain ⟨ad, ha, h⟩ := isPtr_ex h
    obtain ⟨_, hb, hw, h⟩ := rd_ex h
    have hb' := gd_some hb
    simp only [Bool.and_eq_true] at hb'
    obtain ⟨h0, h1⟩ := sized_cells hb'.2
    rw [← h0] at hw h
    exact out_u (run_u (by rw [ha]; exact store_run (VC.K.good_ne hb'.1) h1 hw)) (h _ rfl)
  | ready g => rw [hop] at h; obtain ⟨w', hr, h⟩ := h; exact out_u (run_u hr) h
  | waits g => rw [hop] at h; obtain ⟨v, w', hr, h⟩ := h; exact out_v (run_v hr) h
  | nilCheck x =>
    rw [hop] at h
    simp only [opv] at h
    unfold nilCV at h
    split at h
    · rename_i name first cpt hx
      split at h
      · rename_i r rest hr
        obtain ⟨t, v, rfl, h⟩ := isIf_ex h
        obtain ⟨hn, hK⟩ := h
        refine out_v (v := .func (.method name) first cpt) (w' := w) ?_ hK
        have e0 : first[0]? = some (.iface t v) := by rw [← Array.getElem?_toList, hr]; rfl
        simp only [hx, e0, Sem.run_bind, run_program, Result.andThen_ok, hn]
        rfl
      · exact h.elim
    · obtain ⟨v, hv, h⟩ := rd_ex h
      refine out_v (v := v) (w' := w) ?_ h
      unfold nilChk at hv
      split at hv <;> first | (cases hv; done) | skip
      all_goals (rename_i hx; cases hv; simp only [hx]; rfl)
  | binOp op t x y ty => rw [hop] at h; obtain ⟨v, hv, h⟩ := rd_ex h; exact out_v (run_v (bin_run x y hv)) h
  | unOp op t x => rw [hop] at h; obtain ⟨v, hv, h⟩ := rd_ex h; exact out_v (run_v (unV_run hv)) h
  | convert s d x =>
    rw [hop] at h
    simp only [opv] at h
    split at h
    · rename_i k k' hs hd; obtain ⟨k'', n, hx, h⟩ := isInt_ex h; exact out_v (run_v (by rw [hx]; exact convert_int hs hd)) h
    · obtain ⟨v, w', hr, h⟩ := h; exact out_v (run_v hr) h
  | sliceToArrayPointer arr x => rw [hop] at h; obtain ⟨v, w', hr, h⟩ := h; exact out_v (run_v hr) h
  | makeInterface t x =>
    rw [hop] at h
    obtain ⟨_, hb, h⟩ := rd_ex h
    have hb' := gd_some hb
    exact out_v (run_v (makeIface_run (by rintro e; rw [e] at hb'; cases hb') (by rintro e; rw [e] at hb'; cases hb'))) h
  | makeFunc fn first captured =>
    rw [hop] at h
    refine out_v (run_v (v := .func fn (first.toList.map (ev N e)).toArray (captured.toList.map (ev N e)).toArray) (w' := w) ?_) h
    have q : ∀ l : Array Operand, (l.toList.map (ev N e)).toArray = l.map (ev N e) := fun l => by apply Array.ext'; simp
    simp [Instr.makeFunc, q]
  | makeMap t r =>
    rw [hop] at h
    simp only [opv] at h
    split at h
    · exact out_v (run_v (by simp [Instr.makeMap])) (h _ _ rfl rfl)
    · obtain ⟨v, w', hr, h⟩ := h; exact out_v (run_v hr) h
  | makeChan t s => rw [hop] at h; obtain ⟨v, w', hr, h⟩ := h; exact out_v (run_v hr) h
  | makeSlice t l c => rw [hop] at h; obtain ⟨v, w', hr, h⟩ := h; exact out_v (run_v hr) h
  | slice t x lo hi mx => rw [hop] at h; obtain ⟨v, w', hr, h⟩ := h; exact out_v (run_v hr) h
  | fieldAddr s x f =>
    rw [hop] at h
    simp only [opv] at h
    split at h
    · rename_i fs hk
      obtain ⟨a, ha, h⟩ := isPtr_ex h
      obtain ⟨fd, hf, h⟩ := rd_ex h
      obtain ⟨_, hb, h⟩ := rd_ex h
      have hb' := gd_some hb
      simp only [Bool.and_eq_true, Nat.blt_eq] at hb'
      exact out_v (run_v (by rw [ha]; exact fieldAt_run hk hf (VC.K.good_ne hb'.1) (by omega))) h
    · exact h.elim
  | field t x f =>
    rw [hop] at h
    simp only [opv] at h
    split at h
    · rename_i fs hk
      obtain ⟨cs, ha, h⟩ := isCs_ex h
      obtain ⟨fd, hf, h⟩ := rd_ex h
      obtain ⟨v, hv, h⟩ := field_run (w := w) hk hf h
      exact out_v (run_v (by rw [ha]; exact hv)) h
    · exact h.elim
  | indexAddr t x ix =>
    rw [hop] at h
    simp only [opv] at h
    split at h
    · rename_i el hk
      obtain ⟨k, i, hi, h⟩ := isInt_ex h
      obtain ⟨a, n, c, hx, h⟩ := isSl_ex h
      obtain ⟨ad, ha, h'⟩ := rd_ex h
      obtain ⟨_, hb, ⟨h0, hn⟩, h2⟩ := rd_ex h'
      subst ha
      exact out_v (run_v (by rw [hi, hx]; exact indexAt_slice hk (VC.K.good_ne (gd_some hb)) h0 hn)) h2
    · rename_i n el hk
      obtain ⟨k, i, hi, h⟩ := isInt_ex h
      obtain ⟨ad, hx, h⟩ := isPtr_ex h
      obtain ⟨_, hb, ⟨h0, hn⟩, h⟩ := rd_ex h
      exact out_v (run_v (by rw [hi, hx]; exact indexAt_array hk (VC.K.good_ne (gd_some hb)) h0 hn)) h
    · exact h.elim
  | index t x ix =>
    rw [hop] at h
    simp only [opv] at h
    split at h
    · rename_i n el hk
      obtain ⟨k, i, hi, h⟩ := isInt_ex h
      obtain ⟨cs, hx, h⟩ := isCs_ex h
      obtain ⟨_, hb, ⟨h0, hn⟩, h⟩ := rd_ex h
      obtain ⟨v, hv, h⟩ := index_array (w := w) hk (VC.K.good_ne (gd_some hb)) h0 hn h
      exact out_v (run_v (by rw [hi, hx]; exact hv)) h
    · obtain ⟨v, w', hr, h⟩ := h; exact out_v (run_v hr) h
  | lookup t x ix ok => rw [hop] at h; obtain ⟨v, w', hr, h⟩ := h; exact out_v (run_v hr) h
  | mapUpdate t m k x => rw [hop] at h; obtain ⟨w', hr, h⟩ := h; exact out_u (run_u hr) h
  | mapEntry t m k => rw [hop] at h; obtain ⟨v, w', hr, h⟩ := h; exact out_v (run_v hr) h
  | entryStore t m s x => rw [hop] at h; obtain ⟨w', hr, h⟩ := h; exact out_u (run_u hr) h
  | range t x => rw [hop] at h; obtain ⟨v, w', hr, h⟩ := h; exact out_v (run_v hr) h
  | next it s => rw [hop] at h; obtain ⟨v, w', hr, h⟩ := h; exact out_v (run_v hr) h
  | entry it => rw [hop] at h; obtain ⟨v, w', hr, h⟩ := h; exact out_v (run_v hr) h
  | typeAssert x t a ok => rw [hop] at h; obtain ⟨v, w', hr, h⟩ := h; exact out_v (run_v hr) h
  | extract t ix =>
    rw [hop] at h
    simp only [opv] at h
    obtain ⟨vs, hv, h⟩ := isTup_ex h
    obtain ⟨v, hx, h⟩ := rd_ex h
    refine out_v (run_v (v := v) (w' := w) ?_) h
    simp [Instr.extract, hv, hx]
  | call c =>
    rw [hop] at h
    simp only [opv] at h
    have hargs : c.args.map (ev N e) = (c.args.toList.map (ev N e)).toArray := by apply Array.ext'; simp
    split at h
    · rename_i f hc
      obtain ⟨fn, first, captured, hf, h⟩ := isFn_ex h
      unfold callN at h
      split at h
      · rename_i g
        obtain ⟨h1, h2⟩ := callV_run h
        refine out_c (by cases c; simp only at hc; subst hc; rfl) ?_ h2
        simp only [resolve, hc, hf, Deferred.ofValue, Sem.run_bind, Sem.run_pure, Result.andThen_ok, invoke]
        rw [← h1]
        congr 2
        apply Array.ext'
        simp
      · rename_i name
        split at h
        · rename_i recv rest hrec
          obtain ⟨t, v, rfl, h⟩ := isIf_ex h
          obtain ⟨f', x, hm, h⟩ := h
          obtain ⟨h1, h2⟩ := callV_run h
          refine out_c (by cases c; simp only at hc; subst hc; rfl) ?_ h2
          simp only [resolve, hc, hf, Deferred.ofValue, Sem.run_bind, Sem.run_pure, Result.andThen_ok, invoke]
          have harr : (first ++ c.args.map (ev N e)) = (Value.iface t v :: rest).toArray := by apply Array.ext'; simpa using hrec
          rw [harr]
          have e0 : (Value.iface t v :: rest).toArray[0]? = some (.iface t v) := rfl
          rw [e0]
          simp only [callMethod, Sem.run_bind, run_program, Result.andThen_ok, hm]
          rw [← h1]
          congr 1
          congr 1
          apply Array.ext'
          simp [List.take_of_length_le]
        · exact h.elim
      · exact h.elim
    · rename_i r name hc
      obtain ⟨t, v, hr, h⟩ := isIf_ex h
      obtain ⟨f, x, hm, h⟩ := h
      obtain ⟨h1, h2⟩ := callV_run h
      refine out_c (by cases c; simp only at hc; subst hc; rfl) ?_ h2
      simp only [resolve, hc, hr, Sem.run_bind, Sem.run_pure, Result.andThen_ok, invoke]
      have e0 : (#[Value.iface t v] ++ c.args.map (ev N e))[0]? = some (.iface t v) := by rw [hargs, List.append_toArray]; rfl
      rw [e0]
      simp only [callMethod, Sem.run_bind, run_program, Result.andThen_ok, hm]
      rw [← h1]
      congr 1
      congr 1
      apply Array.ext'
      simp [List.take_of_length_le]
    · rename_i b hc
      split at h
      · rename_i x hb
        obtain ⟨a, n, cp, rfl, h⟩ := isSl_ex h
        obtain ⟨hb1, t, ht, hx, hk⟩ := bShort_lenS hb
        refine out_v (v := .int .i64 n) (w' := w) ?_ h
        obtain ⟨el, hk⟩ := hk
        obtain ⟨i, d, hi, hd, hr⟩ := row_spec (P := P) (t := t) (by rw [hk]; simp)
        rw [hr] at hk
        cases d <;> simp [kOf] at hk
        have h1 : c.argTypes[0]? = some t := by rw [← Array.getElem?_toList, ht]; rfl
        have h2 : (c.args.map (ev N e))[0]? = some (.slice a n cp) := by rw [hargs, List.getElem?_toArray, hx]; rfl
        simp [resolve, hc, invoke, builtin, hb1, Builtin.len_, h1, h2, run_underlying hd, goInt]
      · rename_i x hb
        obtain ⟨s, rfl, h⟩ := isStr_ex h
        obtain ⟨hb1, t, ht, hx, hk⟩ := bShort_lenT hb
        refine out_v (v := .int .i64 s.size) (w' := w) ?_ h
        obtain ⟨i, d, hi, hd, hr⟩ := row_spec (P := P) (t := t) (by rw [hk]; simp)
        rw [hr] at hk
        cases d <;> simp [kOf] at hk
        have h1 : c.argTypes[0]? = some t := by rw [← Array.getElem?_toList, ht]; rfl
        have h2 : (c.args.map (ev N e))[0]? = some (.string s) := by rw [hargs, List.getElem?_toArray, hx]; rfl
        simp [resolve, hc, invoke, builtin, hb1, Builtin.len_, h1, h2, run_underlying hd, goInt]
      · rename_i x y hb
        obtain ⟨k, a, hx, h1⟩ := isInt_ex h
        obtain ⟨k', a', hy, h2⟩ := isInt_ex h1
        subst hx hy
        clear h h1
        have h := h2
        clear h2
        obtain ⟨hb1, hvs⟩ := bShort_mx hb
        refine out_v (v := .int k (max a a')) (w' := w) ?_ h
        have h3 : (if a' > a then a' else a) = max a a' := by split <;> omega
        simp [resolve, hc, invoke, builtin, hb1, Builtin.max_, hvs, Builtin.max2, h3]
      · rename_i x y hb
        obtain ⟨k, a, hx, h1⟩ := isInt_ex h
        obtain ⟨k', a', hy, h2⟩ := isInt_ex h1
        subst hx hy
        clear h h1
        have h := h2
        clear h2
        obtain ⟨hb1, hvs⟩ := bShort_mn hb
        refine out_v (v := .int k (min a a')) (w' := w) ?_ h
        have h3 : (if a' < a then a' else a) = min a a' := by split <;> omega
        simp [resolve, hc, invoke, builtin, hb1, Builtin.min_, hvs, Builtin.min2, h3]
      · obtain ⟨v, w', hr, h⟩ := h
        refine out_v (v := v) (w' := w') ?_ h
        simp only [resolve, hc, Sem.run_bind, Sem.run_pure, Result.andThen_ok, invoke, builtin]
        split at hr
        all_goals first | (simp only [Sem.run_bind, hr, Result.andThen_ok, Sem.run_pure]; done) | skip
        rw [run_stuck] at hr
        cases hr
  | go c => rw [hop] at h; exact h.elim
  | defer c => rw [hop] at h; exact h.elim
  | panic x => rw [hop] at h; exact h.elim
  | send c x => rw [hop] at h; exact h.elim
  | recv t c ok => rw [hop] at h; exact h.elim
  | select cs b => rw [hop] at h; exact h.elim
theorem opv_sound {o : Oper} {e : Env} {K : Value → World → Prop} {next : Act → World → Prop} {Q : Exit → Act → World → Prop}
    (hd : o.dst ≠ some dSlot) (hK : ∀ v w', K v w' → next (act N (put e o.dst v)) w') (h : opv P N o.type e w K o.op) : o.wp P (act N e) w next Q := by
  unfold Oper.wp
  rw [act_eval]
  rcases opv_out h with ⟨v, w', hr, h⟩ | ⟨_, ⟨w', hr, h⟩ | ⟨f, args, hr, h⟩⟩
  · rw [hr, Oper.upon_value, act_put _ _ _ _ hd]; exact hK _ _ h
  · rw [hr, Oper.upon_skip, act_put _ _ _ _ hd]; exact hK _ _ h
  · rw [hr, Oper.upon_enter]
    refine h.mono ?_
    rintro e' w' ⟨v, rfl, hk⟩
    simp only
    rw [act_put _ _ _ _ hd]
    exact hK _ _ hk
theorem opv_value {o : Oper} {e : Env} {K : Value → World → Prop} (hq : quietOp o.op = true) (h : opv P N o.type e w K o.op) : ∃ v w', (execOp (ev N e) o).run P w = .ok (.value v) w' ∧ K v w' := by
  rcases opv_out h with h | ⟨hn, _⟩
  · exact h
  · rw [hq] at hn; cases hn
def fen (r : Option Nat) : Fence := { Fence.wide with round := r }
theorem calls_fen {r : Option Nat} {n : Nat} {f : FuncId} {args : Array Value} {w : World} {R : Ending → World → Prop} (h : Calls P f args w R) : CallsIn (fen r) n P f args w R := callsIn_wide.2 h
theorem round_any {r : Option Nat} {m n l : Nat} {f : FuncId} {tmps : Array Value} {assign body : Code} {w : World} {R : Ending → World → Prop} (h : RoundIn Fence.wide m P l f tmps assign body w R) : RoundIn (fen r) n P l f tmps assign body w R :=
  ⟨trivial, fun c cs _ => h.2 c cs (room_wide _)⟩
theorem rows_fen {r : Option Nat} {n : Nat} {row : String} {args : Array Value} {w : World} {R : Value → World → Prop} (h : Rows P row args w R) : RowsIn (fen r) n P row args w R := fun c cs _ => by
  obtain ⟨v, w', h1, h2⟩ := h c cs
  exact ⟨v, w', h1, stepsIn_wide.2 h2⟩
theorem oper_in {r : Option Nat} {n : Nat} {o : Oper} {a : Act} {w : World} {next : Act → World → Prop} {Q : Exit → Act → World → Prop} (hd : ∀ c, o.op ≠ .defer c) (h : o.wp P a w next Q) : o.wpIn (fen r) n P a w next Q := by
  refine ⟨fun _ _ => trivial, ?_⟩
  rw [Oper.semAt_eq _ _ _ hd]
  unfold Oper.wp at h
  have hdep : (fen r).depth.isSome = true → 1 ≤ n := fun h => by cases h
  generalize (execOp a.eval o).run P w = res at h ⊢
  cases res with
  | ok x w' =>
    cases x <;> simp only [Oper.upon, Oper.uponIn] at h ⊢
    case enter f args => exact ⟨hdep, calls_fen h⟩
    case row row args => exact ⟨hdep, rows_fen h⟩
    all_goals exact h
  | halt x w' => cases x <;> simp only [Oper.upon, Oper.uponIn] at h ⊢; exact h
def isDefer : Op → Bool
  | .defer _ => true
  | _ => false
theorem isDefer_of {o : Op} (h : isDefer o = false) : ∀ c, o ≠ .defer c := by rintro c rfl; cases h
def opvY (P : Program) (N : Nat) (ty : TypeId) (e : Env) (w : World) (K : Value → World → Prop) (op : Op) : Prop :=
  match op with
  | .call { callee := .value f, args := args, .. } => isFn (ev N e f) fun fn first captured => callF P fn (first ++ args.toList.map (ev N e)) captured w K
  | .defer _ => False
  | op => opv P N ty e w K op
theorem opvY_sound {r : Option Nat} {n : Nat} {o : Oper} {e : Env} {K : Value → World → Prop} {next : Act → World → Prop} {Q : Exit → Act → World → Prop}
    (hd : o.dst ≠ some dSlot) (hK : ∀ v w', K v w' → next (act N (put e o.dst v)) w') (h : opvY P N o.type e w K o.op) : o.wpIn (fen r) n P (act N e) w next Q := by
  unfold opvY at h
  split at h
  · rename_i f args ts hop
    obtain ⟨fn, first, captured, hf, h⟩ := isFn_ex h
    unfold callF at h
    split at h
    · rename_i l
      split at h
      case h_2 => exact h.elim
      rename_i hcap
      obtain rfl : captured = #[] := by apply Array.ext'; simpa using hcap
      obtain ⟨fn, tmps, assign, body, hy, hR⟩ := h
      refine ⟨fun _ _ => trivial, ?_⟩
      rw [Oper.semAt_eq _ _ _ (by rw [hop]; intro c hc; cases hc), act_eval]
      have hrun : (execOp (ev N e) o).run P w = .ok (.round l fn tmps assign body) w := by
        unfold execOp
        rw [hop]
        simp only [resolve, hf, Deferred.ofValue, Sem.run_bind, Sem.run_pure, Result.andThen_ok, invoke]
        rw [← hy]
        congr 2
        apply Array.ext'
        simp
      rw [hrun]
      refine ⟨fun h => (by cases h), (round_any hR).mono ?_⟩
      rintro e' w' ⟨v, rfl, hk⟩
      simp only
      rw [act_put _ _ _ _ hd]
      exact hK _ _ hk
    · have h' : opv P N o.type e w K o.op := by
        rw [hop]
        simp only [opv, hf, isFn]
        exact h
      exact oper_in (by rw [hop]; intro c hc; cases hc) (opv_sound hd hK h')
  · exact h.elim
  · rename_i h1 h2
    exact oper_in (fun c hc => h2 c hc) (opv_sound hd hK h)
end
end Go.Proofs.YtipikchkbmgloaaGreatDoor.VC
