/- What NetPlays needs, part 11 of 13: Row Msgs Ops.  Conditions: as each part says. -/
import Derived.ProofKit
import Derived.OpenShut
import Derived.SizedLaws
import Derived.JoinedCond
import Derived.Test.YtipikchkbmgloaaGreatDoorNetPlaysA10
namespace Go.Proofs.YtipikchkbmgloaaGreatDoor.VC
set_option linter.unusedSimpArgs false
set_option linter.unusedVariables false
open Go Go.RowKit Go.ChangeShapes
theorem trodAll_stays {H : Type} {enc : TypeId × Value → H} {P : Program} {W W' : World} {sp : Nat → Bool} (hl : laidOutB P = true) : ∀ {ts : List TypeId} {vs : List Value} {ds : List (DataW H)} {ps : List MemPlace},
    (ts.all fun t => P.readableRec t && decide (t < P.types.size)) = true → DataW.TrodAll enc P W 0 (fun _ => true) true ts vs ds ps → (∀ p ∈ ps, W.sameAt W' p) → (∀ p ∈ ps, sp p.block = true) → DataW.TrodAll enc P W' 0 sp true ts vs ds ps
  | [], [], [], _, _, h, _, _ => h
  | t :: ts, v :: vs, d :: ds, ps, ht, ⟨p, q, h1, h2, e⟩, hsame, hs => by
    simp only [List.all_cons, Bool.and_eq_true, decide_eq_true_eq] at ht
    subst e
    refine ⟨p, q, WideElems.Trod_stays hl ht.1.1 ht.1.2 h1 (fun x hx => hsame x (List.mem_append_left _ hx)) (fun x hx => hs x (List.mem_append_left _ hx)), trodAll_stays hl ?_ h2 (fun x hx => hsame x (List.mem_append_right _ hx)) (fun x hx => hs x (List.mem_append_right _ hx)), rfl⟩
    simpa [List.all_eq_true] using ht.2
  | [], [], _ :: _, _, _, h, _, _ => h.elim
  | [], _ :: _, _, _, _, h, _, _ => h.elim
  | _ :: _, [], _, _, _, h, _, _ => h.elim
  | _ :: _, _ :: _, [], _, _, h, _, _ => h.elim
theorem trodAll_length {H : Type} {enc : TypeId × Value → H} {P : Program} {W : World} {sp : Nat → Bool} : ∀ {ts : List TypeId} {vs : List Value} {ds : List (DataW H)} {ps : List MemPlace}, DataW.TrodAll enc P W 0 sp true ts vs ds ps → ds.length = ts.length
  | [], [], [], _, _ => rfl
  | _ :: _, _ :: _, _ :: _, _, ⟨_, _, _, h2, _⟩ => by simp [trodAll_length h2]
  | [], [], _ :: _, _, h => h.elim
  | [], _ :: _, _, _, h => h.elim
  | _ :: _, [], _, _, h => h.elim
  | _ :: _, _ :: _, [], _, h => h.elim
def Fits (P : Program) (fn : Func) (H : Type) (ds : List (DataW H)) : Prop := (DataW.weightsEach P fn.params.toList ds).all (· ≤ reachBytes) = true
theorem fits_of {P : Program} {fn : Func} {s : ChangeSpec} {H : Type} {ds gs : List (DataW H)} (hvars : s.vars = []) (hg : gs = []) (h : (DataW.weightsEach P (fn.params.toList ++ s.plain.varTypes P) (ds ++ gs)).all (· ≤ reachBytes) = true) : Fits P fn H (ds ++ gs) := by
  subst hg
  have : s.plain.varTypes P = [] := by simp [DataSpec.varTypes, ChangeSpec.plain, hvars]
  rw [this, List.append_nil fn.params.toList] at h
  exact h
theorem gs_nil {P : Program} {fn : Func} {s : ChangeSpec} {apart : Bool} {H : Type} {enc : TypeId × Value → H} {W : World} {args : List Value} {ds gs : List (DataW H)} {before : List MemPlace} (hvars : s.vars = [])
    (hW : DataW.Whole enc P fn.params.toList s.vars apart W args ds gs before) : gs = [] := by
  obtain ⟨p, q, hA, hV, _⟩ := hW
  rw [hvars] at hV
  exact (trodVars_none hV).1
theorem slice_reads {H : Type} {enc : TypeId × Value → H} {P : Program} {W : World} {t e : TypeId} {v : Value} {d : DataW H} {ps : List MemPlace} (ht : P.underlying t = some (.slice e)) {base : Nat} (hv : Value.okWide P W .any base t v) (h : DataW.Trod enc P W 0 (fun _ => true) true t v d ps) :
    ∃ p n c, v = .slice p n c ∧ n ≤ c ∧ c ≤ maxLen ∧ (d = .nil ∧ n = 0 ∨ ∃ el sp, d = .slice el sp ∧ el.length + sp.length = c ∧ el.length = n) ∧
      ∀ i, i < n → ∃ a cs, p = some a ∧ W.cells? 0 (a.add (i * P.cellsOf e)) (P.cellsOf e) = some cs ∧ ∃ m y, DataW.trod enc P W 0 (fun _ => true) true m e cs = some y := by
  obtain ⟨a0, len0, cap0, rfl⟩ := Go.WideShapes.okWide_slice ht hv
  obtain ⟨fuel, hf⟩ := h
  rcases DataW.trod_slice ht hf with ⟨h1, h2⟩ | ⟨a, len, cap, el, rest, m, hm, h1, h2, _, hl, hc, hlen, hel, hsp, _⟩
  · simp [Value.cells] at h1
    obtain ⟨rfl, rfl, rfl⟩ := h1
    exact ⟨_, _, _, rfl, Nat.le_refl _, Nat.zero_le _, .inl ⟨congrArg Prod.fst h2, rfl⟩, fun i hi => by omega⟩
  · simp [Value.cells] at h1
    obtain ⟨rfl, rfl, rfl⟩ := h1
    refine ⟨_, _, _, rfl, hl, hc, .inr ⟨_, _, congrArg Prod.fst h2, ?_, by simpa using hlen⟩, fun i hi => ?_⟩
    · have := (hsp rfl).1
      simp; omega
    · have hi' : i < el.length := by omega
      have := hel i hi
      rw [List.getElem?_eq_getElem hi', Option.bind_eq_some_iff] at this
      obtain ⟨cs, hcs, hy⟩ := this
      exact ⟨a, cs, rfl, hcs, m, _, hy⟩
end Go.Proofs.YtipikchkbmgloaaGreatDoor.VC
namespace Go.Proofs.YtipikchkbmgloaaGreatDoor
set_option linter.unusedSimpArgs false
set_option linter.unusedVariables false
open Go Go.RowKit Go.ChangeShapes Go.WideShapes VC
section
variable {H : Type} {enc : TypeId × Value → H} {P : Program} {W : World}
theorem field_part {e t : TypeId} {l : List (Nat × TypeId)} {off m : Nat} {cs : List Value} {y : DataW H × List MemPlace} (he : (row P e).k = .struct l) (hl : (off, t) ∈ l)
  (h : DataW.trod enc P W 0 (fun _ => true) true m e cs = some y) : cs.length = P.cellsOf e ∧ ∃ m' y', DataW.trod enc P W 0 (fun _ => true) true m' t ((cs.drop off).take (P.cellsOf t)) = some y' := by
 obtain ⟨i, d, hi, hd, hr⟩ := row_spec (P := P) (t := e) (by rw [he]; simp)
 rw [hr] at he
 cases d <;> simp [kOf] at he
 rename_i fs
 obtain ⟨xs, n, rfl, -, hcl, hxl, hf⟩ := DataW.trod_struct hd h
 rw [← he] at hl
 obtain ⟨f, hfm, hfe⟩ := List.mem_map.1 hl
 obtain ⟨j, hj⟩ := List.getElem?_of_mem hfm
 have hj' : fs[j]? = some f := by simpa using hj
 have h2 := hf j f hj'
 have hjl : j < xs.length := by have := (Array.getElem?_eq_some_iff.1 hj').1; omega
 rw [List.getElem?_eq_getElem hjl] at h2
 cases hfe
 exact ⟨hcl, n, _, h2⟩
theorem wf_rng {k : IntKind} {i : Int} (h : (Lit.int k i).wf = true) : k.min ≤ i ∧ i ≤ k.max := by
 simpa [Lit.wf] using h
theorem wf_8 {i : Int} (h : (Lit.int .u8 i).wf = true) : 0 ≤ i ∧ i < 256 := by
 have := wf_rng h; have h1 : IntKind.u8.min = 0 := rfl; have h2 : IntKind.u8.max = 255 := rfl; omega
theorem wf_16 {i : Int} (h : (Lit.int .u16 i).wf = true) : 0 ≤ i ∧ i < 65536 := by
 have := wf_rng h; have h1 : IntKind.u16.min = 0 := rfl; have h2 : IntKind.u16.max = 65535 := rfl; omega
theorem wf_32 {i : Int} (h : (Lit.int .u32 i).wf = true) : 0 ≤ i ∧ i < 4294967296 := by
 have := wf_rng h; have h1 : IntKind.u32.min = 0 := rfl; have h2 : IntKind.u32.max = 4294967295 := rfl; omega
theorem wf_i8 {i : Int} (h : (Lit.int .i8 i).wf = true) : -128 ≤ i ∧ i < 128 := by
 have := wf_rng h; have h1 : IntKind.i8.min = -128 := rfl; have h2 : IntKind.i8.max = 127 := rfl; omega
theorem wf_64 {i : Int} (h : (Lit.int .i64 i).wf = true) : I64 i := by
 have := wf_rng h; have h1 : IntKind.i64.min = -9223372036854775808 := rfl; have h2 : IntKind.i64.max = 9223372036854775807 := rfl
 unfold I64; omega
theorem int_in {t : TypeId} {k : IntKind} {m : Nat} {cs : List Value} {y : DataW H × List MemPlace} (ht : P.underlying t = some (.int k)) (h : DataW.trod enc P W 0 (fun _ => true) true m t cs = some y) : ∃ i, cs = [.int k i] ∧ (Lit.int k i).wf = true := by
 obtain ⟨i, hi, -, hw⟩ := DataW.trod_int ht h
 exact ⟨i, hi, hw⟩
theorem bytes_in {t e : TypeId} {m : Nat} {cs : List Value} {y : DataW H × List MemPlace} (ht : P.underlying t = some (.slice e)) (he : P.underlying e = some (.int .u8)) (hc1 : P.cellsOf e = 1) (h : DataW.trod enc P W 0 (fun _ => true) true m t cs = some y) :
  ∃ (p : Option Addr) (c : Nat) (ys : List Int), cs = [.slice p ys.length c] ∧ ys.length ≤ c ∧ c ≤ maxLen ∧ (∀ y ∈ ys, 0 ≤ y ∧ y < 256) ∧ BytesAt W p ys ∧ (y.1 = .nil ∧ ys.length = 0 ∨ ∃ el sp, y.1 = .slice el sp ∧ el.length + sp.length = c ∧ el.length = ys.length) := by
 rcases DataW.trod_slice ht h with ⟨h1, h2⟩ | ⟨a, len, cap, el, rest, m, hm, h1, h2, _, hl, hc, hlen, hel, hsp, _⟩
 ·exact ⟨none, 0, [], h1, Nat.le_refl _, Nat.zero_le _, fun y hy => (by simp at hy), fun j y hj => (by simp at hj), .inl ⟨congrArg Prod.fst h2, rfl⟩⟩
 ·have : ∀ i, ∃ x : Int, i < len → (0 ≤ x ∧ x < 256) ∧ W.cell? (a.add i) = some (.int .u8 x) := by
   intro i
   by_cases hi : i < len
   ·have hi' : i < el.length := by omega
    have h3 := hel i hi
    rw [List.getElem?_eq_getElem hi', Option.bind_eq_some_iff] at h3
    obtain ⟨cs', hcs, hy⟩ := h3
    rw [hc1, Nat.mul_one] at hcs
    obtain ⟨x, hx, hw⟩ := int_in he hy
    subst hx
    exact ⟨x, fun _ => ⟨wf_8 hw, cell_of_cells?_one hcs⟩⟩
   ·exact ⟨0, fun h => absurd h hi⟩
  obtain ⟨f, hf⟩ : ∃ f : Nat → Int, ∀ i, i < len → (0 ≤ f i ∧ f i < 256) ∧ W.cell? (a.add i) = some (.int .u8 (f i)) := ⟨fun i => Classical.choose (this i), fun i => Classical.choose_spec (this i)⟩
  have hlen2 : ((List.range len).map f).length = len := by simp
  refine ⟨some a, cap, (List.range len).map f, by rw [h1, hlen2], by rw [hlen2]; exact hl, hc, fun y hy => ?_, fun j y hj => ?_, .inr ⟨_, _, congrArg Prod.fst h2, ?_, by rw [hlen2]; simpa using hlen⟩⟩
  ·obtain ⟨i, hi, rfl⟩ := List.mem_map.1 hy
   exact (hf i (by simpa using hi)).1
  ·rw [List.getElem?_map, Option.map_eq_some_iff] at hj
   obtain ⟨i, hi, rfl⟩ := hj
   have hjl : j < len := by have := (List.getElem?_eq_some_iff.1 hi).1; simpa using this
   rw [List.getElem?_range hjl] at hi
   cases hi
   exact ⟨a, rfl, (hf _ hjl).2⟩
  ·have := (hsp rfl).1
   simp; omega
end
theorem list23 {l : List Value} (h : l.length = 23) : ∃ c0 c1 c2 c3 c4 c5 c6 c7 c8 c9 c10 c11 c12 c13 c14 c15 c16 c17 c18 c19 c20 c21 c22, l = [c0, c1, c2, c3, c4, c5, c6, c7, c8, c9, c10, c11, c12, c13, c14, c15, c16, c17, c18, c19, c20, c21, c22] := by
 match l, h with
 | [c0, c1, c2, c3, c4, c5, c6, c7, c8, c9, c10, c11, c12, c13, c14, c15, c16, c17, c18, c19, c20, c21, c22], _ => exact ⟨_, _, _, _, _, _, _, _, _, _, _, _, _, _, _, _, _, _, _, _, _, _, _, rfl⟩
variable {H : Type} {enc : TypeId × Value → H} {W : World}
theorem msg_in {m : Nat} {cs : List Value} {y : DataW H × List MemPlace} (h : DataW.trod enc Tryz.prog W 0 (fun _ => true) true m 41 cs = some y) :
  ∃ (M : Msg) (q : Option Addr) (cq : Nat), cs = msgC M q cq ∧ Mok M ∧ M.bytes.length ≤ cq ∧ cq ≤ maxLen ∧ BytesAt W q M.bytes := by
 have k40 : Tryz.prog.cellsOf 41 = 23 := by kernel_rfl
 have k35 : Tryz.prog.cellsOf 35 = 5 := by kernel_rfl
 have k37 : Tryz.prog.cellsOf 37 = 3 := by kernel_rfl
 have k3 : Tryz.prog.cellsOf 3 = 1 := by kernel_rfl
 have k2 : Tryz.prog.cellsOf 2 = 1 := by kernel_rfl
 have k26 : Tryz.prog.cellsOf 38 = 1 := by kernel_rfl
 have k32 : Tryz.prog.cellsOf 32 = 1 := by kernel_rfl
 have k33 : Tryz.prog.cellsOf 33 = 1 := by kernel_rfl
 have k38 : Tryz.prog.cellsOf 31 = 1 := by kernel_rfl
 have k5 : Tryz.prog.cellsOf 5 = 1 := by kernel_rfl
 have k25 : Tryz.prog.cellsOf 39 = 1 := by kernel_rfl
 have u3 := int_of_row (P := Tryz.prog) (t := 3) (by rw [row3])
 have u2 := int_of_row (P := Tryz.prog) (t := 2) (by rw [row2])
 have u26 := int_of_row (P := Tryz.prog) (t := 38) (by rw [row38])
 have u32 := int_of_row (P := Tryz.prog) (t := 32) (by rw [row32])
 have u33 := int_of_row (P := Tryz.prog) (t := 33) (by rw [row33])
 have u38 := int_of_row (P := Tryz.prog) (t := 31) (by rw [row31])
 have u5 := int_of_row (P := Tryz.prog) (t := 5) (by rw [row5])
 have u25 := slice_of_row (P := Tryz.prog) (t := 39) (e := 5) (by rw [row39])
 obtain ⟨hla0, ma0, ya0, ta0⟩ := field_part (e := 41) (t := 3) (off := 0) (by rw [row41]) (by simp) h
 rw [k40] at hla0
 obtain ⟨c0, c1, c2, c3, c4, c5, c6, c7, c8, c9, c10, c11, c12, c13, c14, c15, c16, c17, c18, c19, c20, c21, c22, rfl⟩ := list23 hla0
 rw [k3] at ta0
 obtain ⟨x0, e0, w0⟩ := int_in u3 ta0
 obtain ⟨hla1, ma1, ya1, ta1⟩ := field_part (e := 41) (t := 32) (off := 1) (by rw [row41]) (by simp) h
 rw [k32] at ta1
 obtain ⟨x1, e1, w1⟩ := int_in u32 ta1
 obtain ⟨hlC, mC, yC, tC⟩ := field_part (e := 41) (t := 35) (off := 2) (by rw [row41]) (by simp) h
 rw [k35] at tC
 obtain ⟨hla2, ma2, ya2, ta2⟩ := field_part (e := 35) (t := 32) (off := 0) (by rw [row35]) (by simp) tC
 rw [k32] at ta2
 obtain ⟨x2, e2, w2⟩ := int_in u32 ta2
 obtain ⟨hla3, ma3, ya3, ta3⟩ := field_part (e := 35) (t := 5) (off := 1) (by rw [row35]) (by simp) tC
 rw [k5] at ta3
 obtain ⟨x3, e3, w3⟩ := int_in u5 ta3
 obtain ⟨hla4, ma4, ya4, ta4⟩ := field_part (e := 35) (t := 33) (off := 2) (by rw [row35]) (by simp) tC
 rw [k33] at ta4
 obtain ⟨x4, e4, w4⟩ := int_in u33 ta4
 obtain ⟨hla5, ma5, ya5, ta5⟩ := field_part (e := 35) (t := 33) (off := 3) (by rw [row35]) (by simp) tC
 rw [k33] at ta5
 obtain ⟨x5, e5, w5⟩ := int_in u33 ta5
 obtain ⟨hla6, ma6, ya6, ta6⟩ := field_part (e := 35) (t := 3) (off := 4) (by rw [row35]) (by simp) tC
 rw [k3] at ta6
 obtain ⟨x6, e6, w6⟩ := int_in u3 ta6
 obtain ⟨hla7, ma7, ya7, ta7⟩ := field_part (e := 41) (t := 32) (off := 7) (by rw [row41]) (by simp) h
 rw [k32] at ta7
 obtain ⟨x7, e7, w7⟩ := int_in u32 ta7
 obtain ⟨hla8, ma8, ya8, ta8⟩ := field_part (e := 41) (t := 3) (off := 8) (by rw [row41]) (by simp) h
 rw [k3] at ta8
 obtain ⟨x8, e8, w8⟩ := int_in u3 ta8
 obtain ⟨hla9, ma9, ya9, ta9⟩ := field_part (e := 41) (t := 3) (off := 9) (by rw [row41]) (by simp) h
 rw [k3] at ta9
 obtain ⟨x9, e9, w9⟩ := int_in u3 ta9
 obtain ⟨hlD, mD, yD, tD⟩ := field_part (e := 41) (t := 37) (off := 10) (by rw [row41]) (by simp) h
 rw [k37] at tD
 obtain ⟨hla10, ma10, ya10, ta10⟩ := field_part (e := 37) (t := 2) (off := 0) (by rw [row37]) (by simp) tD
 rw [k2] at ta10
 obtain ⟨x10, e10, w10⟩ := int_in u2 ta10
 obtain ⟨hla11, ma11, ya11, ta11⟩ := field_part (e := 37) (t := 2) (off := 1) (by rw [row37]) (by simp) tD
 rw [k2] at ta11
 obtain ⟨x11, e11, w11⟩ := int_in u2 ta11
 obtain ⟨hla12, ma12, ya12, ta12⟩ := field_part (e := 37) (t := 2) (off := 2) (by rw [row37]) (by simp) tD
 rw [k2] at ta12
 obtain ⟨x12, e12, w12⟩ := int_in u2 ta12
 obtain ⟨hla13, ma13, ya13, ta13⟩ := field_part (e := 41) (t := 38) (off := 13) (by rw [row41]) (by simp) h
 rw [k26] at ta13
 obtain ⟨x13, e13, w13⟩ := int_in u26 ta13
 obtain ⟨hlPp, mPp, yPp, tPp⟩ := field_part (e := 41) (t := 37) (off := 14) (by rw [row41]) (by simp) h
 rw [k37] at tPp
 obtain ⟨hla14, ma14, ya14, ta14⟩ := field_part (e := 37) (t := 2) (off := 0) (by rw [row37]) (by simp) tPp
 rw [k2] at ta14
 obtain ⟨x14, e14, w14⟩ := int_in u2 ta14
 obtain ⟨hla15, ma15, ya15, ta15⟩ := field_part (e := 37) (t := 2) (off := 1) (by rw [row37]) (by simp) tPp
 rw [k2] at ta15
 obtain ⟨x15, e15, w15⟩ := int_in u2 ta15
 obtain ⟨hla16, ma16, ya16, ta16⟩ := field_part (e := 37) (t := 2) (off := 2) (by rw [row37]) (by simp) tPp
 rw [k2] at ta16
 obtain ⟨x16, e16, w16⟩ := int_in u2 ta16
 obtain ⟨hlVv, mVv, yVv, tVv⟩ := field_part (e := 41) (t := 37) (off := 17) (by rw [row41]) (by simp) h
 rw [k37] at tVv
 obtain ⟨hla17, ma17, ya17, ta17⟩ := field_part (e := 37) (t := 2) (off := 0) (by rw [row37]) (by simp) tVv
 rw [k2] at ta17
 obtain ⟨x17, e17, w17⟩ := int_in u2 ta17
 obtain ⟨hla18, ma18, ya18, ta18⟩ := field_part (e := 37) (t := 2) (off := 1) (by rw [row37]) (by simp) tVv
 rw [k2] at ta18
 obtain ⟨x18, e18, w18⟩ := int_in u2 ta18
 obtain ⟨hla19, ma19, ya19, ta19⟩ := field_part (e := 37) (t := 2) (off := 2) (by rw [row37]) (by simp) tVv
 rw [k2] at ta19
 obtain ⟨x19, e19, w19⟩ := int_in u2 ta19
 obtain ⟨hla20, ma20, ya20, ta20⟩ := field_part (e := 41) (t := 31) (off := 20) (by rw [row41]) (by simp) h
 rw [k38] at ta20
 obtain ⟨x20, e20, w20⟩ := int_in u38 ta20
 obtain ⟨hla21, ma21, ya21, ta21⟩ := field_part (e := 41) (t := 31) (off := 21) (by rw [row41]) (by simp) h
 rw [k38] at ta21
 obtain ⟨x21, e21, w21⟩ := int_in u38 ta21
 obtain ⟨hlB, mB, yB, tB⟩ := field_part (e := 41) (t := 39) (off := 22) (by rw [row41]) (by simp) h
 rw [k25] at tB
 obtain ⟨q, cq, ys, eB, hle, hmx, hr, hby, -⟩ := bytes_in u25 u5 k5 tB
 change [c0] = _ at e0
 obtain rfl := (List.cons.inj e0).1
 change [c1] = _ at e1
 obtain rfl := (List.cons.inj e1).1
 change [c2] = _ at e2
 obtain rfl := (List.cons.inj e2).1
 change [c3] = _ at e3
 obtain rfl := (List.cons.inj e3).1
 change [c4] = _ at e4
 obtain rfl := (List.cons.inj e4).1
 change [c5] = _ at e5
 obtain rfl := (List.cons.inj e5).1
 change [c6] = _ at e6
 obtain rfl := (List.cons.inj e6).1
 change [c7] = _ at e7
 obtain rfl := (List.cons.inj e7).1
 change [c8] = _ at e8
 obtain rfl := (List.cons.inj e8).1
 change [c9] = _ at e9
 obtain rfl := (List.cons.inj e9).1
 change [c10] = _ at e10
 obtain rfl := (List.cons.inj e10).1
 change [c11] = _ at e11
 obtain rfl := (List.cons.inj e11).1
 change [c12] = _ at e12
 obtain rfl := (List.cons.inj e12).1
 change [c13] = _ at e13
 obtain rfl := (List.cons.inj e13).1
 change [c14] = _ at e14
 obtain rfl := (List.cons.inj e14).1
 change [c15] = _ at e15
 obtain rfl := (List.cons.inj e15).1
 change [c16] = _ at e16
 obtain rfl := (List.cons.inj e16).1
 change [c17] = _ at e17
 obtain rfl := (List.cons.inj e17).1
 change [c18] = _ at e18
 obtain rfl := (List.cons.inj e18).1
 change [c19] = _ at e19
 obtain rfl := (List.cons.inj e19).1
 change [c20] = _ at e20
 obtain rfl := (List.cons.inj e20).1
 change [c21] = _ at e21
 obtain rfl := (List.cons.inj e21).1
 change [c22] = _ at eB
 obtain rfl := (List.cons.inj eB).1
 exact ⟨⟨x0, x1, x2, x3, x4, x5, x6, x7, x8, x9, x10, x11, x12, x13, x14, x15, x16, x17, x18, x19, x20, x21, ys⟩, q, cq, rfl, ⟨wf_64 w0, wf_16 w1, wf_16 w2, wf_8 w3, wf_i8 w4, wf_i8 w5, wf_64 w6, wf_16 w7, wf_64 w8, wf_64 w9, wf_64 w10, wf_64 w11, wf_64 w12, wf_64 w13, wf_64 w14, wf_64 w15, wf_64 w16, wf_64 w17, wf_64 w18, wf_64 w19, wf_32 w20, wf_32 w21, hr⟩, hle, hmx, hby⟩
end Go.Proofs.YtipikchkbmgloaaGreatDoor
namespace Go.Proofs.YtipikchkbmgloaaGreatDoor
set_option linter.unusedSimpArgs false
set_option linter.unusedVariables false
open Go Go.RowKit Go.ChangeShapes Go.WideShapes VC
theorem list27 {l : List Value} (h : l.length = 27) : ∃ a b m d e, l = a :: b :: (m ++ [d, e]) ∧ m.length = 23 := by
 match l, h with
 | a :: b :: r, h =>
  have hr : r.length = 25 := by simpa using h
  have hd : (r.drop 23).length = 2 := by rw [List.length_drop]; omega
  match hrd : r.drop 23, hd with
  | [d, e], _ => exact ⟨a, b, r.take 23, d, e, by rw [← hrd, List.take_append_drop], by rw [List.length_take]; omega⟩
variable {H : Type} {enc : TypeId × Value → H} {W : World}
theorem op_in {m : Nat} {cs : List Value} {y : DataW H × List MemPlace} (h : DataW.trod enc Tryz.prog W 0 (fun _ => true) true m 43 cs = some y) :
  ∃ (o : OpD) (q : Option Addr) (cq : Nat) (qb : Option Addr) (cb : Nat), cs = opC o q cq qb cb ∧ Mok o.m ∧ o.m.bytes.length ≤ cq ∧ BytesAt W q o.m.bytes ∧ (∀ y ∈ o.b, 0 ≤ y ∧ y < 256) ∧ o.b.length ≤ cb ∧ BytesAt W qb o.b ∧ I64 o.n := by
 have k43 : Tryz.prog.cellsOf 43 = 27 := by kernel_rfl
 have k41 : Tryz.prog.cellsOf 41 = 23 := by kernel_rfl
 have k3 : Tryz.prog.cellsOf 3 = 1 := by kernel_rfl
 have k31 : Tryz.prog.cellsOf 31 = 1 := by kernel_rfl
 have k39 : Tryz.prog.cellsOf 39 = 1 := by kernel_rfl
 have k5 : Tryz.prog.cellsOf 5 = 1 := by kernel_rfl
 have u3 := int_of_row (P := Tryz.prog) (t := 3) (by rw [row3])
 have u31 := int_of_row (P := Tryz.prog) (t := 31) (by rw [row31])
 have u5 := int_of_row (P := Tryz.prog) (t := 5) (by rw [row5])
 have u39 := slice_of_row (P := Tryz.prog) (t := 39) (e := 5) (by rw [row39])
 obtain ⟨hl0, m0, y0, t0⟩ := field_part (e := 43) (t := 3) (off := 0) (by rw [row43]) (by simp) h
 rw [k43] at hl0
 obtain ⟨a, b, ms, d, e, rfl, hml⟩ := list27 hl0
 obtain ⟨-, m1, y1, t1⟩ := field_part (e := 43) (t := 3) (off := 1) (by rw [row43]) (by simp) h
 obtain ⟨-, m2, y2, t2⟩ := field_part (e := 43) (t := 41) (off := 2) (by rw [row43]) (by simp) h
 obtain ⟨-, m3, y3, t3⟩ := field_part (e := 43) (t := 31) (off := 25) (by rw [row43]) (by simp) h
 obtain ⟨-, m4, y4, t4⟩ := field_part (e := 43) (t := 39) (off := 26) (by rw [row43]) (by simp) h
 rw [k3] at t0 t1
 rw [k41] at t2
 rw [k31] at t3
 rw [k39] at t4
 have e2 : ((a :: b :: (ms ++ [d, e])).drop 2).take 23 = ms := List.take_left' hml
 have e3 : ((a :: b :: (ms ++ [d, e])).drop 25).take 1 = [d] := by
  show ((ms ++ [d, e]).drop 23).take 1 = [d]
  rw [List.drop_left' hml]; rfl
 have e4 : ((a :: b :: (ms ++ [d, e])).drop 26).take 1 = [e] := by
  show ((ms ++ [d, e]).drop 24).take 1 = [e]
  rw [show (24 : Nat) = 23 + 1 from rfl, ← List.drop_drop, List.drop_left' hml]; rfl
 rw [e2] at t2
 rw [e3] at t3
 rw [e4] at t4
 obtain ⟨x0, f0, w0⟩ := int_in u3 t0
 obtain ⟨x1, f1, w1⟩ := int_in u3 t1
 obtain ⟨M, q, cq, rfl, hmok, hcq, -, hby⟩ := msg_in t2
 obtain ⟨x3, f3, w3⟩ := int_in u31 t3
 obtain ⟨qb, cb, bs, f4, hcb, -, hbr, hbb, -⟩ := bytes_in u39 u5 k5 t4
 change [a] = _ at f0
 obtain rfl := (List.cons.inj f0).1
 change [b] = _ at f1
 obtain rfl := (List.cons.inj f1).1
 obtain rfl := (List.cons.inj f3).1
 obtain rfl := (List.cons.inj f4).1
 have h3 := wf_32 w3
 refine ⟨⟨x0, x1, M, x3.toNat, bs⟩, q, cq, qb, cb, ?_, hmok, hcq, hby, hbr, hcb, hbb, wf_64 w1⟩
 unfold opC
 simp only [Int.toNat_of_nonneg h3.1]
theorem ops_in {p : Option Addr} {n : Nat} (h : ∀ i, i < n → ∃ a cs, p = some a ∧ W.cells? 0 (a.add (i * Tryz.prog.cellsOf 43)) (Tryz.prog.cellsOf 43) = some cs ∧ ∃ m y, DataW.trod enc Tryz.prog W 0 (fun _ => true) true m 43 cs = some y) :
  ∃ l : List OpD, n = l.length ∧ OpsAt W p l := by
 have k43 : Tryz.prog.cellsOf 43 = 27 := by kernel_rfl
 rw [k43] at h
 have key : ∀ i, ∃ o : OpD, i < n → (∃ ad q cq qb cb, p = some ad ∧ cellsAt W (ad.add (i * 27)) 27 = some (opC o q cq qb cb) ∧ BytesAt W q o.m.bytes ∧ o.m.bytes.length ≤ cq ∧ BytesAt W qb o.b ∧ o.b.length ≤ cb) ∧ Mok o.m ∧ (∀ y ∈ o.b, 0 ≤ y ∧ y < 256) ∧ I64 o.n := by
  intro i
  by_cases hi : i < n
  ·obtain ⟨a, cs, rfl, hcs, m, y, hy⟩ := h i hi
   obtain ⟨o, q, cq, qb, cb, rfl, h1, h2, h3, h4, h5, h6, h7⟩ := op_in hy
   obtain ⟨-, hlen, hcell⟩ := World.cells?_some hcs
   refine ⟨o, fun _ => ⟨⟨a, q, cq, qb, cb, rfl, ?_, h3, h2, h6, h5⟩, h1, h4, h7⟩⟩
   exact cellsAt_of (l := opC o q cq qb cb) fun j v hj => by
    have hjl : j < 27 := (List.getElem?_eq_some_iff.1 hj).1
    have := hcell j hjl
    rw [hj] at this
    exact this
  ·exact ⟨⟨0, 0, blank 0, 0, []⟩, fun h => absurd h hi⟩
 obtain ⟨f, hf⟩ : ∃ f : Nat → OpD, ∀ i, i < n → (∃ ad q cq qb cb, p = some ad ∧ cellsAt W (ad.add (i * 27)) 27 = some (opC (f i) q cq qb cb) ∧ BytesAt W q (f i).m.bytes ∧ (f i).m.bytes.length ≤ cq ∧ BytesAt W qb (f i).b ∧ (f i).b.length ≤ cb) ∧ Mok (f i).m ∧ (∀ y ∈ (f i).b, 0 ≤ y ∧ y < 256) ∧ I64 (f i).n :=
  ⟨fun i => Classical.choose (key i), fun i => Classical.choose_spec (key i)⟩
 refine ⟨(List.range n).map f, by simp, fun j o hj => ?_, fun o ho => ?_⟩
 ·rw [List.getElem?_map, Option.map_eq_some_iff] at hj
  obtain ⟨i, hi, rfl⟩ := hj
  have hjl : j < n := by have := (List.getElem?_eq_some_iff.1 hi).1; simpa using this
  rw [List.getElem?_range hjl] at hi
  cases hi
  exact (hf j hjl).1
 ·obtain ⟨i, hi, rfl⟩ := List.mem_map.1 ho
  exact (hf i (by simpa using hi)).2
end Go.Proofs.YtipikchkbmgloaaGreatDoor
