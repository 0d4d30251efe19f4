/- message's law 7, the plain law: a kind has just its fields.  Conditions: none. -/
import Derived.Test.YtfekkdmnboccfaaPure7
namespace Go.Proofs.Ytfekkdmnboccfaa
set_option linter.unusedSimpArgs false
set_option linter.unusedVariables false
open Go Go.RowKit VC
def letters : List Int := [83, 67, 112, 73, 100, 115, 121, 86, 87, 84, 116, 66]
def hasL : List (List Int) := [[], [], [67], [112, 100, 115], [], [73], [83, 86, 87], [112, 73], [112, 121], [84, 116, 66]]
def setL (c n : Int) (m : Msg) : Msg :=
  if c = 83 then { m with seq := IntKind.u16.wrap n } else if c = 67 then { m with ct := n } else if c = 112 then { m with prov := IntKind.u16.wrap n } else if c = 73 then { m with id := n }
  else if c = 100 then { m with d1 := n } else if c = 115 then { m with shot := n } else if c = 121 then { m with why := n } else if c = 86 then { m with p2 := n } else if c = 87 then { m with v0 := n }
  else if c = 84 then { m with tick := IntKind.u32.wrap n } else if c = 116 then { m with bse := IntKind.u32.wrap n } else { m with bytes := List.replicate (andI .i64 n 1023).toNat 0 }
def mayL (c n : Int) (x : Msg) : Bool :=
  if c = 83 then decide (x.seq = 0) else if c = 67 then (decide (x.cq = 0) && (decide (x.cb = 0) && (decide (x.cdx = 0) && (decide (x.cdy = 0) && (decide (x.ct = 0) && true))))) else if c = 112 then decide (x.prov = 0) else if c = 73 then decide (n = 0)
  else if c = 100 then (decide (x.d0 = 0) && (decide (x.d1 = 0) && (decide (x.d2 = 0) && true))) else if c = 115 then decide (n = 0) else if c = 121 then decide (n = 0) else if c = 86 then (decide (x.p0 = 0) && (decide (x.p1 = 0) && (decide (x.p2 = 0) && true)))
  else if c = 87 then (decide (x.v0 = 0) && (decide (x.v1 = 0) && (decide (x.v2 = 0) && true))) else if c = 84 then decide (x.tick = 0) else if c = 116 then decide (x.bse = 0) else decide (andI .i64 n 1023 = 0)
def okL (c n : Int) : Bool :=
  if c = 67 then decide (1 ≤ n) && decide (n ≤ 8) else if c = 73 then decide (1 ≤ n) && decide (n < 2147483648) else if c = 100 then decide (-65536 ≤ n) && decide (n ≤ 65536)
  else if c = 115 then decide (n = 0) || decide (n = 1) else if c = 121 then decide (1 ≤ n) && decide (n ≤ 10) else if c = 86 then decide (-2147483648 ≤ n) && decide (n < 2147483648) else if c = 87 then decide (-2147483648 ≤ n) && decide (n < 2147483648) else true
theorem w16r (n : Int) : 0 ≤ IntKind.u16.wrap n ∧ IntKind.u16.wrap n < 65536 := by simp only [IntKind.wrap, IntKind.bits, IntKind.signed]; simp; omega
theorem w32r (n : Int) : 0 ≤ IntKind.u32.wrap n ∧ IntKind.u32.wrap n < 4294967296 := by simp only [IntKind.wrap, IntKind.bits, IntKind.signed]; simp; omega
theorem and1023 (n : Int) : ∃ a : Nat, andI .i64 n 1023 = a ∧ a ≤ 1023 := by
  have h1 := andI_le n 1023 (by omega)
  have h2 : (((1023 : Nat) : Int)) = 1023 := rfl
  rw [h2] at h1
  exact ⟨(andI .i64 n 1023).toNat, by omega, by omega⟩
theorem ite_q {Q : Msg → Prop} {p : Prop} [Decidable p] {a b : Msg} (ha : Q a) (hb : Q b) : Q (if p then a else b) := by split <;> assumption
theorem ite_mok {p : Prop} [Decidable p] {a b : Msg} (ha : Mok a) (hb : Mok b) : Mok (if p then a else b) := by split <;> assumption
theorem set_mok {m : Msg} {n : Int} (hm : Mok m) (hn : I64 n) (c : Int) : Mok (setL c n m) := by
  have h16 := w16r n
  have h32 := w32r n
  unfold setL
  obtain ⟨h1, h2, h3, h4, h5, h6, h7, h8, h9, h10, h11, h12, h13, h14, h15, h16', h17, h18, h19, h20, h21, h22, h23⟩ := hm
  repeat' refine ite_mok ?_ ?_
  all_goals constructor <;> first | assumption | (intro y hy; have := List.eq_of_mem_replicate hy; omega)
theorem set_len {m : Msg} {n : Int} (hl : m.bytes.length ≤ 1023) (c : Int) : (setL c n m).bytes.length ≤ 1023 := by
  obtain ⟨a, ha, hle⟩ := and1023 n
  have hr : (List.replicate (andI .i64 n 1023).toNat (0 : Int)).length ≤ 1023 := by rw [ha]; simpa using hle
  unfold setL
  repeat' refine ite_q (Q := fun x => x.bytes.length ≤ 1023) ?_ ?_
  all_goals first | exact hl | exact hr
theorem set_kind (c n : Int) (m : Msg) : (setL c n m).kind = m.kind := by
  unfold setL
  repeat' refine ite_q (Q := fun x => x.kind = m.kind) ?_ ?_
  all_goals rfl
set_option maxHeartbeats 8000000 in
theorem fields_law {m : Msg} {n c : Int} (h : Rok m) (hn : I64 n) (hc : c ∈ letters) : rightM (setL c n m) = if c ∈ hasL.getD m.kind.toNat [] then okL c n else mayL c n (setL c n m) := by
  have hx := right_iff (set_mok h.ok hn c) (by have := set_len (n := n) h.len c; omega)
  have hk := known_iff.1 h.known
  have hf := (bad_iff h.ok (by have := h.len; omega)).1 h.bad
  have ho := h.only
  have hlen := h.len
  obtain ⟨a, ha, hle⟩ := and1023 n
  have hrep : List.replicate (andI .i64 n 1023).toNat (0 : Int) = [] ↔ andI .i64 n 1023 = 0 := by
    rw [ha]; simp
  have hrl : (List.replicate (andI .i64 n 1023).toNat (0 : Int)).length ≤ 1023 := by rw [ha]; simpa using hle
  clear h
  obtain ⟨kind, seq, cq, cb, cdx, cdy, ct, prov, id, shot, d0, d1, d2, why, p0, p1, p2, v0, v1, v2, tick, bse, bytes⟩ := m
  simp only at hk hlen
  have hkk : kind = 1 ∨ kind = 2 ∨ kind = 3 ∨ kind = 4 ∨ kind = 5 ∨ kind = 6 ∨ kind = 7 ∨ kind = 8 ∨ kind = 9 := by omega
  rw [Bool.eq_iff_iff, hx]
  clear hx
  rcases hkk with rfl | rfl | rfl | rfl | rfl | rfl | rfl | rfl | rfl <;>
    simp [fits] at hf <;>
    simp [only, blank] at ho <;>
    (simp only [letters, List.mem_cons, List.not_mem_nil, or_false] at hc) <;>
    rcases hc with rfl | rfl | rfl | rfl | rfl | rfl | rfl | rfl | rfl | rfl | rfl | rfl <;>
    simp [setL, mayL, okL, hasL, fits, only, blank, hf, ho, hrep] <;> first | done | omega | skip
  all_goals trace_state
end Go.Proofs.Ytfekkdmnboccfaa
