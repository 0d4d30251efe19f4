/- What NetBytes needs, part 9 of 12: Duo LawB.  Conditions: as each part says. -/
import Derived.Test.YtipikchkbmgloaaDoorNetBytesA8
/- Two channels side by side; what must be in any case.  Conditions: the table lies as it is listed. -/
namespace Go.Proofs.YtipikchkbmgloaaDoor
set_option linter.unusedSimpArgs false
set_option linter.unusedVariables false
open Go Go.RowKit VC
variable {w : World}
theorem ChAt.keep {w' : World} {F S : Nat → Prop} {A : Nat} {c : Ch} (h : ChAt w F A c) (f : Fm S w w') (hS : ∀ i, F i → ¬ S i) : ChAt w' F A c := by
  obtain ⟨bl, mk, wv, sv, hs, h1, h2, h3⟩ := h
  exact ⟨bl, mk, wv, sv, hs, h1.keep f fun i _ _ _ hi _ => hS i hi, h2.keep f fun i _ _ _ hi _ => hS i hi, h3⟩
theorem ChAt.lt {F : Nat → Prop} {A : Nat} {c : Ch} (h : ChAt w F A c) : ∀ i, F i → i < w.heap.size := by
  obtain ⟨bl, mk, wv, sv, hs, h1, h2, h3⟩ := h
  exact h1.lt
structure Duo (w0 w : World) (FA FB : Nat → Prop) (A B : Nat) (a b : Ch) : Prop where
  a : ChAt w FA A a
  b : ChAt w FB B b
  dis : ∀ i, FA i → ¬ FB i
  hiA : ∀ i, FA i → w0.heap.size ≤ i
  hiB : ∀ i, FB i → w0.heap.size ≤ i
  fm : Fm none' w0 w
theorem Duo.swap {w0 : World} {FA FB : Nat → Prop} {A B : Nat} {a b : Ch} (h : Duo w0 w FA FB A B a b) : Duo w0 w FB FA B A b a := ⟨h.b, h.a, fun i hb ha => h.dis i ha hb, h.hiB, h.hiA, h.fm⟩
theorem Duo.keep {w0 w' : World} {FA FB : Nat → Prop} {A B : Nat} {a b : Ch} (h : Duo w0 w FA FB A B a b) (f : Fm none' w w') : Duo w0 w' FA FB A B a b := ⟨h.a.keep f fun _ _ => id, h.b.keep f fun _ _ => id, h.dis, h.hiA, h.hiB, h.fm.trans f⟩
theorem Duo.step {w0 w' : World} {FA FB F' : Nat → Prop} {A B : Nat} {a b a' : Ch} (h : Duo w0 w FA FB A B a b) (ha : ChAt w' F' A a') (hF : ∀ i, F' i → FA i ∨ w.heap.size ≤ i) (f : Fm FA w w') : Duo w0 w' F' FB A B a' b := by
  refine ⟨ha, h.b.keep f fun i hb ha => h.dis i ha hb, fun i hi hb => ?_, fun i hi => ?_, h.hiB, h.fm.trans' f fun i hi ha => by have := h.hiA i ha; omega⟩
  · rcases hF i hi with h1 | h1
    · exact h.dis i h1 hb
    · have := h.b.lt i hb; omega
  · rcases hF i hi with h1 | h1
    · exact h.hiA i h1
    · have := h.fm.size; omega
/-- Bytes that are no channel's. -/
structure Loose (w : World) (FA FB : Nat → Prop) (base : Nat) (q : Option Addr) (e : Nat) (ys : List Int) : Prop where
  own : w.ownsRow base 5 1 (.slice q ys.length e) ys.length (ys.map (Value.int .u8))
  no : ∀ i, (Value.slice q ys.length e).ownBlock = some i → ¬ FA i ∧ ¬ FB i
theorem Loose.bytes {FA FB : Nat → Prop} {base e : Nat} {q : Option Addr} {ys : List Int} (h : Loose w FA FB base q e ys) : BytesAt w q ys := BytesAt.of_own h.own
theorem Loose.cap {FA FB : Nat → Prop} {base e : Nat} {q : Option Addr} {ys : List Int} (h : Loose w FA FB base q e ys) : ys.length ≤ e := own_cap' h.own
theorem Loose.swap {FA FB : Nat → Prop} {base e : Nat} {q : Option Addr} {ys : List Int} (h : Loose w FA FB base q e ys) : Loose w FB FA base q e ys := ⟨h.own, fun i hi => (h.no i hi).symm⟩
theorem Loose.step {w' : World} {FA FB F' : Nat → Prop} {base e : Nat} {q : Option Addr} {ys : List Int} (h : Loose w FA FB base q e ys) (hF : ∀ i, F' i → FA i ∨ w.heap.size ≤ i) (f : Fm FA w w') : Loose w' F' FB base q e ys := by
  refine ⟨f.owns h.own fun i hi => (h.no i hi).1, fun i hi => ⟨fun h' => ?_, (h.no i hi).2⟩⟩
  rcases hF i h' with h1 | h1
  · exact (h.no i hi).1 h1
  · obtain ⟨_, cur, hcur⟩ := own_block h.own hi
    have := lt_of_blk hcur; omega
theorem Loose.keep {w' : World} {FA FB : Nat → Prop} {base e : Nat} {q : Option Addr} {ys : List Int} (h : Loose w FA FB base q e ys) (f : Fm none' w w') : Loose w' FA FB base q e ys := ⟨f.owns h.own fun _ _ => id, h.no⟩
section
variable {w0 : World} {FA FB : Nat → Prop} {A B : Nat} {a b : Ch}
theorem duo_push {m : Msg} {p : Option Addr} {cp : Nat} (h : Duo w0 w FA FB A B a b) (hm : Mok m) (hy : BytesAt w p m.bytes) (hp : ∀ ad, p = some ad → m.bytes ≠ [] → ad.block < w.heap.size) (hl : m.bytes.length ≤ 1000000) :
    callV Tryd.prog 19 [.pointer (some ⟨A, 0, none⟩), .agg (msgC m p cp).toArray] w fun v w' => v = .int .i64 (pushC a m).1 ∧ ∃ F', Duo w0 w' F' FB A B (pushC a m).2 b ∧ (∀ i, F' i → FA i ∨ w.heap.size ≤ i) ∧ Fm FA w w' := by
  refine (push19_c h.a hm hy hp hl).mono ?_
  rintro v w' ⟨hv, hc, hf⟩
  have hF : ∀ i, FNew FA w w' i → FA i ∨ w.heap.size ≤ i := fun i hi => hi.imp id (·.1)
  exact ⟨hv, _, h.step hc hF hf, hF, hf⟩
theorem duo_pack {l : List Msg} {p : Option Addr} {cp now N : Nat} (hH : Halves w0) (h : Duo w0 w FA FB A B a b) (hm : MsgsAt w N p l) (hN : N ≤ w.heap.size) (hok : Msok l) (hll : l.length ≤ 900) (hnow : now < 4294967296) (hsl : a.sent.length < 64) :
    callV Tryd.prog 17 [.pointer (some ⟨A, 0, none⟩), .slice p l.length cp, .int .u32 now] w fun v w' => ∃ q e F', v = .tuple #[.slice q (packC a l now).1.1.length e, .int .i64 (packC a l now).1.2] ∧
      Loose w' F' FB w.heap.size q e (packC a l now).1.1 ∧ Duo w0 w' F' FB A B (packC a l now).2 b ∧ (∀ i, F' i → FA i ∨ w.heap.size ≤ i) ∧ Fm FA w w' := by
  refine (pack17_c (hH.keep h.fm id) h.a hm hN hok hll hnow hsl).mono ?_
  rintro v w' ⟨q, e, F', hv, ho, hno, hc, hF, hf⟩
  refine ⟨q, e, F', hv, ⟨ho, fun i hi => ⟨hno i hi, fun hb => ?_⟩⟩, h.step hc hF hf, hF, hf⟩
  have := (own_block ho hi).1
  have := h.b.lt i hb
  omega
theorem duo_unpack {ys : List Int} {p : Option Addr} {cp now : Nat} (hH : Halves w0) (h : Duo w0 w FA FB A B a b) (hb : BytesAt w p ys) (hy : ∀ y ∈ ys, 0 ≤ y ∧ y < 256) (hl : ys.length ≤ 1000000) (hnc : ys.length ≤ cp) (hnow : now < 4294967296)
    (hsl : a.sent.length ≤ 1000000) (hids : ∀ e ∈ a.sent, e.ids.length ≤ 1000000) :
    callV Tryd.prog 18 [.pointer (some ⟨A, 0, none⟩), .slice p ys.length cp, .int .u32 now] w fun v w' => ∃ q e, v = .tuple #[.slice q (unpackC a ys now).1.1.length e, .int .i64 (unpackC a ys now).1.2] ∧
      OwnMsgs w' w.heap.size (.slice q (unpackC a ys now).1.1.length e) (unpackC a ys now).1.1 ∧ Duo w0 w' FA FB A B (unpackC a ys now).2 b ∧ Fm FA w w' := by
  refine (unpack18_c (hH.keep h.fm id) h.a hb hy hl hnc hnow hsl hids).mono ?_
  rintro v w' ⟨q, e, hv, ho, hc, hf⟩
  exact ⟨q, e, hv, ho, h.step hc (fun i hi => .inl hi) hf, hf⟩
theorem duo_waits (h : Duo w0 w FA FB A B a b) : callV Tryd.prog 20 [.pointer (some ⟨A, 0, none⟩)] w fun v w' => v = .int .i64 a.wait.length ∧ w' = w := by
  obtain ⟨bl, mk, wv, sv, hs, h1, h2, h3⟩ := h.a
  exact waits20_c h1
theorem duo_rtt (h : Duo w0 w FA FB A B a b) : callV Tryd.prog 21 [.pointer (some ⟨A, 0, none⟩)] w fun v w' => v = .int .i64 a.rtt ∧ w' = w := by
  obtain ⟨bl, mk, wv, sv, hs, h1, h2, h3⟩ := h.a
  exact rtt21_c h1
/-- Two new channels. -/
theorem duo_new : callV Tryd.prog 15 [] w fun v w1 => ∃ A, v = .pointer (some ⟨A, 0, none⟩) ∧ callV Tryd.prog 15 [] w1 fun v' w' => ∃ FA FB B, v' = .pointer (some ⟨B, 0, none⟩) ∧ Duo w w' FA FB A B newC newC := by
  refine new15_c.mono ?_
  rintro v w1 ⟨rfl, h1, hf1⟩
  refine ⟨_, rfl, new15_c.mono ?_⟩
  rintro v' w2 ⟨rfl, h2, hf2⟩
  refine ⟨_, _, _, rfl, h1.keep hf2 fun _ _ => id, h2, fun i hi hi' => ?_, fun i hi => ?_, fun i hi => ?_, hf1.trans hf2⟩
  · rcases hi with h | h
    · exact h
    · rcases hi' with h' | h'
      · exact h'
      · omega
  · rcases hi with h | h
    · exact h.elim
    · exact h.1
  · rcases hi with h | h
    · exact h.elim
    · have := hf1.size; omega
end
/-! ### what must be in any case -/
def shM : Msg := { blank 7 with prov := 3, id := 9 }
def shH : Msg := blank 1
def shA1 : Ch := (pushC newC shM).2
def shX : List Int := (packC shA1 [] 5).1.1
def shA2 : Ch := (packC shA1 [] 5).2
def shB1 : Ch := (unpackC newC shX 7).2
def shB2 : Ch := (unpackC shB1 shX 8).2
def shY : List Int := (packC shB2 [shH] 9).1.1
def shB3 : Ch := (packC shB2 [shH] 9).2
def shA3 : Ch := (unpackC shA2 shY 11).2
theorem sh1 : (pushC newC shM).1 = 0 := by decide +kernel
theorem sh2 : (packC shA1 [] 5).1.2 = 0 := by decide +kernel
theorem sh3 : (unpackC newC shX 7).1 = ([shM], 0) := by decide +kernel
theorem sh4 : (unpackC shB1 shX 8).1.2 = 7 := by decide +kernel
theorem sh5 : (packC shB2 [shH] 9).1.2 = 0 := by decide +kernel
theorem sh6 : (unpackC shA2 shY 11).1 = ([shH], 0) := by decide +kernel
theorem sh7 : shA3.wait.length = 0 ∧ shA3.rtt = 6 := by decide +kernel
theorem sealB_r {x : List Int} (h : ∀ y ∈ x, 0 ≤ y ∧ y < 256) : ∀ y ∈ sealB x, 0 ≤ y ∧ y < 256 := by
  intro y hy
  rcases List.mem_append.1 hy with hy | hy
  · exact h y hy
  · exact beB_r _ _ y hy
theorem encD_r (d : Dg) : (∀ y ∈ (encD d).1, 0 ≤ y ∧ y < 256) ∧ (encD d).1.length ≤ 1024 := by
  unfold encD
  split
  · exact ⟨by simp, by simp⟩
  split
  · exact ⟨by simp, by simp⟩
  split
  · exact ⟨by simp, by simp⟩
  · rename_i h
    refine ⟨sealB_r fun y hy => ?_, Nat.le_of_not_lt h⟩
    rcases List.mem_append.1 hy with hy | hy
    · exact headB_r d y hy
    · exact enc_range _ y hy
theorem packC_r (c : Ch) (l : List Msg) (now : Nat) : (∀ y ∈ (packC c l now).1.1, 0 ≤ y ∧ y < 256) ∧ (packC c l now).1.1.length ≤ 1024 := by
  unfold packC
  split
  · exact ⟨by simp, by simp⟩
  · exact encD_r _
theorem mok_sh : Mok shM ∧ Mok shH := by
  refine ⟨⟨?_, ?_, ?_, ?_, ?_, ?_, ?_, ?_, ?_, ?_, ?_, ?_, ?_, ?_, ?_, ?_, ?_, ?_, ?_, ?_, ?_, ?_, ?_⟩, ⟨?_, ?_, ?_, ?_, ?_, ?_, ?_, ?_, ?_, ?_, ?_, ?_, ?_, ?_, ?_, ?_, ?_, ?_, ?_, ?_, ?_, ?_, ?_⟩⟩
  all_goals first | (unfold I64; decide) | decide | (intro y hy; simp [shM, shH, blank] at hy)
theorem msok_nil : Msok [] := ⟨by simp, by simp, by simp⟩
theorem msgs_nil (w : World) (N : Nat) (p : Option Addr) : MsgsAt w N p [] := fun j m h => by simp at h
set_option maxRecDepth 20000 in
set_option maxHeartbeats 1000000 in
theorem shown8_c (hH : Halves w) : callV Tryd.prog 8 [] w fun v w' => v = .bool true ∧ Fm none' w w' := by
  refine vc8 w _ ?_
  refine (duo_new (w := w)).mono ?_
  rintro _ w1 ⟨A, rfl, hnew⟩
  simp only [vcs, eqV, nilV, Option.map_some, Nat.mul_one, implies_true, true_and, and_true, and_self]
  refine hnew.mono ?_
  rintro _ w4 ⟨FA, FB, B, rfl, hD⟩
  simp only [Option.isNone_some, vcs, eqV, nilV, Option.map_some, Nat.mul_one, implies_true, true_and, and_true, and_self]
  refine (duo_push (m := shM) (p := none) (cp := 0) hD mok_sh.1 BytesAt.none (fun ad e => by cases e) (by decide)).mono ?_
  rintro _ w7 ⟨rfl, F1, hD1, -, -⟩
  rw [sh1]
  simp only [vcs, eqV, nilV, Option.map_some, Nat.mul_one, implies_true, true_and, and_true, and_self]
  change Duo w w7 F1 FB A B shA1 newC at hD1
  refine (duo_pack (l := []) (p := none) (cp := 0) (now := 5) (N := w7.heap.size) hH hD1 (msgs_nil _ _ _) (Nat.le_refl _) msok_nil (by simp) (by omega) (by decide +kernel)).mono ?_
  rintro _ w10 ⟨qx, ex, F2, rfl, hx, hD2, -, -⟩
  rw [sh2]
  change Loose w10 F2 FB w7.heap.size qx ex shX at hx
  change Duo w w10 F2 FB A B shA2 newC at hD2
  simp only [vcs, eqV, nilV, Option.map_some, Nat.mul_one, implies_true, true_and, and_true, and_self, List.getElem?_toArray, List.getElem?_cons_zero, List.getElem?_cons_succ]
  have hxr := packC_r shA1 [] 5
  change (∀ y ∈ shX, 0 ≤ y ∧ y < 256) ∧ shX.length ≤ 1024 at hxr
  rw [show (packC shA1 [] 5).1.1 = shX from rfl]
  refine (duo_unpack (ys := shX) (cp := ex) (now := 7) hH hD2.swap hx.bytes hxr.1 (by omega) hx.cap (by omega) (by simp [newC]) (by simp [newC])).mono ?_
  rintro _ w20 ⟨q1, e1, rfl, ho1, hD3, hf3⟩
  have hx3 := (hx.swap.step (fun i hi => .inl hi) hf3)
  change Duo w w20 FB F2 B A shB1 shA2 at hD3
  rw [sh3] at ho1 ⊢
  simp only [vcs, eqV, nilV, Option.map_some, Nat.mul_one, implies_true, true_and, and_true, and_self, List.getElem?_toArray, List.getElem?_cons_zero, List.getElem?_cons_succ]
  refine (duo_unpack (ys := shX) (cp := ex) (now := 8) hH hD3 hx3.bytes hxr.1 (by omega) hx3.cap (by omega) (by decide +kernel) (by decide +kernel)).mono ?_
  rintro _ w30 ⟨q2, e2, rfl, ho2, hD4, hf4⟩
  change Duo w w30 FB F2 B A shB2 shA2 at hD4
  rw [sh4]
  simp only [vcs, eqV, nilV, Option.map_some, Nat.mul_one, implies_true, true_and, and_true, and_self, List.getElem?_toArray, List.getElem?_cons_zero, List.getElem?_cons_succ]
  refine build_Sg (cs := msgC shH none 0) (by rw [row24]) row53 rfl (by omega) (by omega) rfl fun w40 hb40 hs40 hf40 => ?_
  simp only [vcs, eqV, nilV, Option.map_some, Nat.mul_one, implies_true, true_and, and_true, and_self]
  have hD5 := hD4.keep hf40
  have hmH : MsgsAt w40 w40.heap.size (some ⟨w30.heap.size, 0, none⟩) [shH] := by
    intro j m hj
    match j, hj with
    | 0, hj =>
      simp at hj; subst hj
      exact ⟨_, none, 0, rfl, by show w30.heap.size < _; omega, by rw [addr_add]; exact cells_all hb40 rfl, BytesAt.none, fun ad e => by cases e⟩
  refine (duo_pack (l := [shH]) (p := some ⟨w30.heap.size, 0, none⟩) (cp := 1) (now := 9) (N := w40.heap.size) hH hD5 hmH (Nat.le_refl _) ⟨by simp [mok_sh.2], by simp [shH, blank], by simp⟩ (by simp) (by omega) (by decide +kernel)).mono ?_
  rintro _ w45 ⟨qy, ey, F3, rfl, hy, hD6, -, hf6⟩
  rw [sh5]
  change Loose w45 F3 F2 w40.heap.size qy ey shY at hy
  change Duo w w45 F3 F2 B A shB3 shA2 at hD6
  simp only [vcs, eqV, nilV, Option.map_some, Nat.mul_one, implies_true, true_and, and_true, and_self, List.getElem?_toArray, List.getElem?_cons_zero, List.getElem?_cons_succ]
  have hyr := packC_r shB2 [shH] 9
  change (∀ y ∈ shY, 0 ≤ y ∧ y < 256) ∧ shY.length ≤ 1024 at hyr
  rw [show (packC shB2 [shH] 9).1.1 = shY from rfl]
  refine (duo_unpack (ys := shY) (cp := ey) (now := 11) hH hD6.swap hy.bytes hyr.1 (by omega) hy.cap (by omega) (by decide +kernel) (by decide +kernel)).mono ?_
  rintro _ w55 ⟨q3, e3, rfl, ho3, hD7, hf7⟩
  change Duo w w55 F2 F3 A B shA3 shB3 at hD7
  rw [sh6]
  simp only [vcs, eqV, nilV, Option.map_some, Nat.mul_one, implies_true, true_and, and_true, and_self, List.getElem?_toArray, List.getElem?_cons_zero, List.getElem?_cons_succ]
  have hFB : ∀ i, FB i → i < w10.heap.size := hD2.b.lt
  have hF2 : ∀ i, F2 i → i < w10.heap.size := hD2.a.lt
  have hb0 : w10.heap.size ≤ w20.heap.size := hf3.size
  have hall : Fm (fun i => FB i ∨ F2 i) w20 w55 := (((hf4.mono fun i _ h => .inl h).trans hf40.none).trans (hf6.mono fun i _ h => .inl h)).trans (hf7.mono fun i _ h => .inr h)
  have ho55 := ho1.keep hall fun i C t _ hb _ h => by
    rcases h with h | h
    · have := hFB i h; omega
    · have := hF2 i h; omega
  obtain ⟨p1, c1, e1', hat⟩ := ho55.at
  cases e1'
  obtain ⟨ad, qm, cm, rfl, -, hcells, -, -⟩ := hat 0 shM rfl
  have hid : w55.cell? (ad.add 8) = some (.int .i64 9) := by
    have := (cellsAt_length hcells).2 8 (.int .i64 9) rfl
    rw [add_add] at this
    rwa [Nat.zero_mul, Nat.zero_add] at this
  have hfin : Fm none' w w55 := hD7.fm
  simp only [decide_true, List.length_cons, List.length_nil, hid, vcs, eqV, nilV, Option.map_some, Nat.mul_one, implies_true, true_and, and_true, and_self]
  refine br_dec (fun _ => ⟨by decide, ?_⟩) (fun h => absurd rfl h)
  refine br_dec (fun _ => ?_) (fun h => absurd rfl h)
  refine (duo_waits hD7).mono ?_
  rintro _ w68 ⟨rfl, rfl⟩
  simp only [vcs, eqV, nilV, Option.map_some, Nat.mul_one, implies_true, true_and, and_true, and_self]
  rw [sh7.1]
  refine br_dec (fun _ => ?_) (fun h => absurd rfl h)
  refine (duo_rtt hD7).mono ?_
  rintro _ w71 ⟨rfl, rfl⟩
  simp only [vcs, eqV, nilV, Option.map_some, Nat.mul_one, implies_true, true_and, and_true, and_self]
  rw [sh7.2]
  exact ⟨rfl, hfin⟩
end Go.Proofs.YtipikchkbmgloaaDoor
/- NetchanBytes, walked.  Conditions: the arguments may be read; the table lies as it is listed. -/
namespace Go.Proofs.YtipikchkbmgloaaDoor
set_option linter.unusedSimpArgs false
set_option linter.unusedVariables false
open Go Go.RowKit VC
variable {w : World}
theorem conv_run {q : Option Addr} {n c : Nat} {ys : List Int} {K : Value → World → Prop} (hn : n = ys.length) (h : BytesAt w q ys) (k : K (.string (strOfNums ys)) w) : runs Tryd.prog (convert 25 9 (.slice q n c)) w K :=
  conv_bytes (by rw [row25]) (by rw [row5]) (by rw [row9]) hn (fun j y hj => h j y hj) k
theorem decD_rok {ys : List Int} (hy : ∀ y ∈ ys, 0 ≤ y ∧ y < 256) : (∀ m ∈ (decD ys).1.list, Rok m) ∧ (decD ys).1.list.length ≤ 16 := by
  have hz : (∀ m ∈ dgZ.list, Rok m) ∧ dgZ.list.length ≤ 16 := ⟨by simp [dgZ], by simp [dgZ]⟩
  unfold decD
  split
  · exact hz
  split
  · exact hz
  split
  · exact hz
  split
  · exact hz
  rename_i h
  have hr : decodeM ((bodyB ys).drop 9) = ((decodeM ((bodyB ys).drop 9)).1, 0) := by
    have h' : (decodeM ((bodyB ys).drop 9)).2 = 0 := by simpa using h
    rw [← h']
  have := enc_dec (fun y h => hy y (List.mem_of_mem_take (List.mem_of_mem_drop h))) hr
  exact ⟨this.1, this.2.1⟩
/-- b = append([]byte{}, b[:min(len(b), k)]...). -/
theorem cut_bytes {ys : List Int} {p : Option Addr} {c : Nat} {K : Value → World → Prop} {k : Nat} (hb : BytesAt w p ys) (hnc : ys.length ≤ c) (hk : k ≤ 100000)
    (kk : ∀ q e w', Loose w' none' none' w.heap.size q e (ys.take k) → Fm none' w w' → K (.slice q (ys.take k).length e) w') :
    runs Tryd.prog (Instr.buildSlice 25 0 #[]) w fun v8 w9 => isSl v8 fun o10 n11 n12 => runs Tryd.prog (Instr.sliceAt 25 (.slice p ys.length c) none (some (.int .i64 (min (ys.length : Int) k))) none) w9 fun v13 w14 => isSl v13 fun o15 n16 n17 =>
      runs Tryd.prog (Builtin.append_ #[25, 25] 25 #[.slice o10 n11 n12, .slice o15 n16 n17]) w14 K := by
  refine build_none (by rw [row25]) row5 fun s w9 hs hs9 hf9 => ?_
  obtain ⟨p9, c9, rfl, -⟩ := own_read hs
  simp only [vcs, eqV, nilV, Option.map_some, Nat.mul_one, implies_true, true_and, and_true, and_self]
  obtain ⟨n, hn⟩ : ∃ n, n = min ys.length k := ⟨_, rfl⟩
  rw [show min (ys.length : Int) k = (n : Int) by omega]
  refine sliceAt_hi (by rw [row25]) row5 (by omega) (by omega) ?_
  simp only [vcs, eqV, nilV, Option.map_some, Nat.mul_one, implies_true, true_and, and_true, and_self]
  have hnl : n = (ys.take k).length := by rw [List.length_take]; omega
  have hbt : BytesAt w9 (if c = 0 then p else p.map (·.add 0)) (ys.take k) := ((hb.keep hf9 fun _ _ => id).take k).zero c
  have hbt' := hbt
  refine append_b (ys := ys.take k) (by rw [row25]) row5 rfl hs hnl (fun j y hj => hbt' j y hj) hf9.size (by simp only [maxLen]; omega) (by omega) fun v w19 hv hf hblk => ?_
  obtain ⟨q, e, rfl, -⟩ := own_read hv
  simp only [Nat.zero_add, List.nil_append] at hv ⊢
  rw [hnl] at hv ⊢
  exact kk q e w19 ⟨hv, fun i _ => ⟨id, id⟩⟩ (hf9.trans' hf fun i hi e => by have := (own_block hs e).1; omega)
/-- A datagram's cells, laid in a block of one's own. -/
theorem lay_dg {d : Dg} {q : Option Addr} {c T : Nat} {C : Array Value} {K : Nat → World → Prop} (hC : C.size = 5)
    (k : ∀ D w', w.heap.size ≤ D → w'.heap[D]? = some (.cells #[.int .u16 d.seq, .bool d.any, .int .u16 d.last, .int .u32 d.bits, .slice q d.list.length c] T (0, 0)) → Fm none' w w' → K D w') :
    allocC w (.cells C T (0, 0)) fun n w1 => rd (gd ((dgC d q c).cells.toList.length == 5)) fun _ => stC w1 ⟨n, 0, none⟩ (cellsOf true (dgC d q c)) fun w2 => K n w2 := by
  refine allocC_of fun w1 hb1 hs1 hf1 => ?_
  refine rd_of (v := ()) rfl ?_
  refine stC_all hb1 (by rw [hC]; rfl) (fun v hv => by
    have : v ∈ [Value.int .u16 d.seq, .bool d.any, .int .u16 d.last, .int .u32 d.bits, .slice q d.list.length c] := hv
    simp at this; rcases this with rfl | rfl | rfl | rfl | rfl <;> rfl) fun w2 hb2 hf2 => ?_
  exact k _ w2 (Nat.le_refl _) hb2 (hf1.trans' hf2 fun i hi e => by omega)
set_option maxRecDepth 20000 in
set_option maxHeartbeats 1000000 in
theorem bytes3_c {seq last bits : Nat} {any : Bool} {ms : List Msg} {p q : Option Addr} {c e : Nat} {ys : List Int} (hH : Halves w) (hs : seq < 65536) (hl : last < 65536) (hbt : bits < 4294967296) (hin : In w p ms) (hnc : ms.length ≤ c)
    (hb : BytesAt w q ys) (hy : ∀ y ∈ ys, 0 ≤ y ∧ y < 256) (hne : ys.length ≤ e) :
    callV Tryd.prog 3 [.int .u16 seq, .bool any, .int .u16 last, .int .u32 bits, .slice p ms.length c, .slice q ys.length e] w fun v w' => v = .bool true ∧ Fm none' w w' := by
  refine vc3 seq any last bits p ms.length c q ys.length e w _ ?_
  refine (shown8_c hH).mono ?_
  rintro _ w1 ⟨rfl, hf1⟩
  simp only [vcs, eqV, nilV, Option.map_some, Nat.mul_one, implies_true, true_and, and_true, and_self]
  have hin1 : In w1 p ms := hin.keep hf1
  refine (few9_c hin1 hnc).mono ?_
  rintro v3 w4 ⟨hown4, hf4⟩
  obtain ⟨pm, cm, rfl, hms4⟩ := hown4.at
  obtain ⟨hMok, -⟩ := few_ok hin.ok
  obtain ⟨M, hM⟩ : ∃ M, M = fewM ms := ⟨_, rfl⟩
  have hMl : M.length ≤ 20 := by rw [hM]; exact few_len ms
  rw [← hM] at hms4 hMok hown4 ⊢
  simp only [vcs, eqV, nilV, Option.map_some, Nat.mul_one, implies_true, true_and, and_true, and_self]
  have hF4 := hf1.trans hf4
  refine cut_bytes (k := 2000) (hb.keep hF4 fun _ _ => id) hne (by omega) fun qb eb w19 hbz hf19 => ?_
  obtain ⟨zs, hzs⟩ : ∃ zs, zs = ys.take 2000 := ⟨_, rfl⟩
  have hzl : zs.length ≤ 2000 := by rw [hzs, List.length_take]; omega
  have hzr : ∀ y ∈ zs, 0 ≤ y ∧ y < 256 := fun y h => hy y (List.mem_of_mem_take (hzs ▸ h))
  rw [← hzs] at hbz ⊢
  simp only [vcs, eqV, nilV, Option.map_some, Nat.mul_one, implies_true, true_and, and_true, and_self]
  have hF19 := hF4.trans hf19
  have hd : Dok ⟨seq, any, last, bits, M⟩ := ⟨hs, hl, hbt⟩
  have hms19 := hms4.keep (N := w4.heap.size) hf19 fun _ _ => id
  refine (encode10_c (d := ⟨seq, any, last, bits, M⟩) (p := pm) (c := cm) (hH.keep hF19 id) hd hms19 hf19.size hMok).mono ?_
  rintro _ w24 ⟨qx, ex, rfl, hox, hf24⟩
  simp only [vcs, eqV, nilV, Option.map_some, Nat.mul_one, implies_true, true_and, and_true, and_self, List.getElem?_toArray, List.getElem?_cons_zero, List.getElem?_cons_succ]
  have hF24 := hF19.trans hf24
  obtain ⟨E, hE⟩ : ∃ E, E = encD ⟨seq, any, last, bits, M⟩ := ⟨_, rfl⟩
  rw [← hE] at hox ⊢
  have hms24 : MsgsAt w24 w24.heap.size pm M := (hms19.keep hf24 fun _ _ => id).up (Nat.le_trans hf19.size hf24.size)
  refine (encode11_c (d := ⟨seq, any, last, bits, M⟩) (p := pm) (c := cm) hd hms24 hMok (by show M.length ≤ 100; omega)).mono ?_
  rintro _ w34 ⟨rfl, hf34⟩
  rw [← hE]
  simp only [vcs, eqV, nilV, Option.map_some, Nat.mul_one, implies_true, true_and, and_true, and_self, List.getElem?_toArray, List.getElem?_cons_zero, List.getElem?_cons_succ]
  have hF34 := hF24.trans hf34
  have hbz34 : BytesAt w34 qb zs := (hbz.keep (hf24.trans hf34)).bytes
  refine (decode12_c (c := eb) (hH.keep hF34 id) hbz34 hzr (by omega) hbz.cap).mono ?_
  rintro _ w42 ⟨q1, c1, rfl, ho1, hf42⟩
  obtain ⟨D, hD⟩ : ∃ D, D = (decD zs).1 := ⟨_, rfl⟩
  obtain ⟨De, hDe⟩ : ∃ De, De = (decD zs).2 := ⟨_, rfl⟩
  rw [← hD] at ho1 ⊢
  rw [← hDe]
  simp only [vcs, eqV, nilV, Option.map_some, Nat.mul_one, implies_true, true_and, and_true, and_self, List.getElem?_toArray, List.getElem?_cons_zero, List.getElem?_cons_succ]
  refine lay_dg rfl fun D1 w50 hD1 hb50 hf50 => ?_
  have hF42 := hF34.trans (hf42.trans hf50)
  refine conv_run rfl ((hbz34.keep hf42 fun _ _ => id).keep hf50 fun _ _ => id) ?_
  simp only [vcs, eqV, nilV, Option.map_some, Nat.mul_one, implies_true, true_and, and_true, and_self]
  refine (decode13_c (w := w50) hzr (by omega)).mono ?_
  rintro _ w55 ⟨q2, c2, rfl, ho2, hf55⟩
  rw [← hD] at ho2 ⊢
  rw [← hDe]
  simp only [vcs, eqV, nilV, Option.map_some, Nat.mul_one, implies_true, true_and, and_true, and_self, List.getElem?_toArray, List.getElem?_cons_zero, List.getElem?_cons_succ]
  refine lay_dg rfl fun D2 w63 hD2 hb63 hf63 => ?_
  have hf5063 := hf55.trans hf63
  have hF63 := hF42.trans hf5063
  have hx63 : BytesAt w63 qx E.1 := (BytesAt.of_own hox).keep (((hf34.trans hf42).trans hf50).trans hf5063) fun _ _ => id
  refine conv_run rfl hx63 ?_
  simp only [vcs, eqV, nilV, Option.map_some, Nat.mul_one, implies_true, true_and, and_true, and_self]
  have hb50' := hf5063.keep hb50 id
  have k0 : w63.cell? ⟨D1, 0, none⟩ = some (.int .u16 D.seq) := cellOf hb50' rfl
  have k1 : w63.cell? ⟨D1, 1, none⟩ = some (.bool D.any) := cellOf hb50' rfl
  have k2 : w63.cell? ⟨D1, 2, none⟩ = some (.int .u16 D.last) := cellOf hb50' rfl
  have k3 : w63.cell? ⟨D1, 3, none⟩ = some (.int .u32 D.bits) := cellOf hb50' rfl
  have k4 : w63.cell? ⟨D1, 4, none⟩ = some (.slice q1 D.list.length c1) := cellOf hb50' rfl
  have j0 : w63.cell? ⟨D2, 0, none⟩ = some (.int .u16 D.seq) := cellOf hb63 rfl
  have j1 : w63.cell? ⟨D2, 1, none⟩ = some (.bool D.any) := cellOf hb63 rfl
  have j2 : w63.cell? ⟨D2, 2, none⟩ = some (.int .u16 D.last) := cellOf hb63 rfl
  have j3 : w63.cell? ⟨D2, 3, none⟩ = some (.int .u32 D.bits) := cellOf hb63 rfl
  have j4 : w63.cell? ⟨D2, 4, none⟩ = some (.slice q2 D.list.length c2) := cellOf hb63 rfl
  simp only [k0, k1, k2, k3, k4, j0, j1, j2, j3, j4, decide_true, vcs, eqV, nilV, Option.map_some, Nat.mul_one, implies_true, true_and, and_true, and_self]
  obtain ⟨_, _, e1, m1⟩ := (ho1.keep (hf50.trans hf5063) fun _ _ _ _ _ _ => id).at
  cases e1
  obtain ⟨_, _, e2, m2⟩ := (ho2.keep hf63 fun _ _ _ _ _ _ => id).at
  cases e2
  obtain ⟨hrok, hDl⟩ := decD_rok hzr
  rw [← hD] at hrok hDl
  have hrb : ∀ m ∈ D.list, ∀ y ∈ m.bytes, 0 ≤ y ∧ y < 256 := fun m hm => (hrok m hm).ok.bytes
  refine (same14_c (cp := c1) (cq := c2) m1 m2 hrb hrb (by omega)).mono ?_
  rintro _ w92 ⟨rfl, hf92⟩
  simp only [decide_true, vcs, eqV, nilV, Option.map_some, Nat.mul_one, implies_true, true_and, and_true, and_self]
  exact hF63.trans hf92
end Go.Proofs.YtipikchkbmgloaaDoor
