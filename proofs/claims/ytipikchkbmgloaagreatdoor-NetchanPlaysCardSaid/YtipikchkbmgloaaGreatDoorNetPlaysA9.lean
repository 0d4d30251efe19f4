/- What NetPlays needs, part 9 of 13: DgX Ref F1 RUnp Lay2 Hld RPack F2.  Conditions: as each part says. -/
import Derived.Test.YtipikchkbmgloaaGreatDoorNetPlaysA8
namespace Go.Proofs.YtipikchkbmgloaaGreatDoor
set_option linter.unusedSimpArgs false
set_option linter.unusedVariables false
open Go Go.RowKit VC
variable {w : World}
theorem slice_strH {P : Program} {w : World} {t : TypeId} {ys : List Int} {h : Nat} {kh : IntKind} {K : Value → World → Prop} (ht : (row P t).k = .string) (hh : h ≤ ys.length) (k : K (.string (strOfNums (ys.take h))) w) :
  runs P (Instr.sliceAt t (.string (strOfNums ys)) none (some (.int kh (h : Int))) none) w K := by
 have hu := string_of_row ht
 refine ⟨_, _, ?_, k⟩
 rw [run_sliceAt_string w t _ _ _ _ hu, run_slice_string_h _ _ _ hu kh h (by omega) (by rw [strOfNums_size]; omega), Int.toNat_natCast, extract_str, List.drop_zero]
theorem slice_strL {P : Program} {w : World} {t : TypeId} {ys : List Int} {l : Nat} {kl : IntKind} {K : Value → World → Prop} (ht : (row P t).k = .string) (hh : l ≤ ys.length) (k : K (.string (strOfNums (ys.drop l))) w) :
  runs P (Instr.sliceAt t (.string (strOfNums ys)) (some (.int kl (l : Int))) none none) w K := by
 have hu := string_of_row ht
 refine ⟨_, _, ?_, k⟩
 rw [run_sliceAt_string w t _ _ _ _ hu, run_slice_string_l _ _ _ hu kl l (by omega) (by rw [strOfNums_size]; omega), Int.toNat_natCast, strOfNums_size, extract_str, List.take_length]
theorem valB_zero : ∀ (ys : List Int), (∀ y ∈ ys, 0 ≤ y ∧ y < 256) → (valB ys = 0 ↔ ys = List.replicate ys.length 0) := by
 intro ys
 suffices h : ∀ n (ys : List Int), ys.length = n → (∀ y ∈ ys, 0 ≤ y ∧ y < 256) → (valB ys = 0 ↔ ys = List.replicate n 0) from fun hy => h _ ys rfl hy
 intro n
 induction n with
 | zero => intro ys h _; rw [List.length_eq_zero_iff.1 h]; simp [valB]
 | succ n ih =>
  intro ys h hy
  obtain ⟨l, y, rfl⟩ : ∃ l y, ys = l ++ [y] := ⟨ys.dropLast, ys.getLast (by intro e; rw [e] at h; simp at h), (List.dropLast_concat_getLast _).symm⟩
  have h1 := ih l (by simpa using h) fun z hz => hy z (by simp [hz])
  have h2 := hy y (by simp)
  rw [valB_snoc, List.replicate_succ']
  constructor
  ·intro h
   have e1 : valB l = 0 := by omega
   have e2 : y = 0 := by omega
   rw [h1.1 e1, e2]
  ·intro h
   have := List.append_inj' h rfl
   have e1 := h1.2 this.1
   have e2 : y = 0 := by simpa using this.2
   rw [e1, e2]; rfl
theorem zero6 {ys : List Int} (hy : ∀ y ∈ ys, 0 ≤ y ∧ y < 256) (hl : 9 ≤ ys.length) : ((ys.take 9).drop 3 = List.replicate 6 0) ↔ ¬ (valB ((ys.take 5).drop 3) ≠ 0 ∨ valB ((ys.take 9).drop 5) ≠ 0) := by
 have e : (ys.take 9).drop 3 = (ys.take 5).drop 3 ++ (ys.take 9).drop 5 := by
  have h1 : (ys.take 9).drop 3 = ((ys.take 9).drop 3).take 2 ++ ((ys.take 9).drop 3).drop 2 := (List.take_append_drop _ _).symm
  rw [h1, List.drop_drop, List.take_drop, List.take_take]
  rfl
 have l1 : ((ys.take 5).drop 3).length = 2 := by rw [List.length_drop, List.length_take]; omega
 have l2 : ((ys.take 9).drop 5).length = 4 := by rw [List.length_drop, List.length_take]; omega
 have z1 := valB_zero ((ys.take 5).drop 3) fun y h => hy y (List.mem_of_mem_take (List.mem_of_mem_drop h))
 have z2 := valB_zero ((ys.take 9).drop 5) fun y h => hy y (List.mem_of_mem_take (List.mem_of_mem_drop h))
 rw [l1] at z1
 rw [l2] at z2
 rw [e, not_or, Decidable.not_not, Decidable.not_not, z1, z2]
 constructor
 ·intro h
  exact List.append_inj h (by rw [l1]; rfl)
 ·rintro ⟨h1, h2⟩
  rw [h1, h2]; rfl
set_option maxRecDepth 20000 in
set_option maxHeartbeats 2000000 in
theorem decode13_c {ys : List Int} (hy : ∀ y ∈ ys, 0 ≤ y ∧ y < 256) (hl : ys.length ≤ 10000) :
  callV Tryz.prog 38 [.string (strOfNums ys)] w (DecR w (decD ys)) := by
 refine vc38 (strOfNums ys) w _ ?_
 simp only [strOfNums_size]
 refine allocC_of fun w1 hb1 hs1 hf1 => ?_
 have fail : ∀ (e : Int) (w' : World), decD ys = (dgZ, e) → Fm none' w w' → (∃ C, C.size = 5 ∧ w'.heap[w.heap.size]? = some (.cells C 102 (0, 0))) →
   stC w' ⟨w.heap.size, 0, none⟩ [.int .u16 0, .bool false, .int .u16 0, .int .u32 0, .slice none 0 0] fun w2 => rd (cellsAt w2 ⟨w.heap.size, 0, none⟩ 5) fun l => DecR w (decD ys) (.tuple #[.agg l.toArray, .int .i64 e]) w2 := by
  rintro e w' he hf ⟨C, hC, hbx⟩
  refine stC_all hbx (by rw [hC]; rfl) (fun v hv => by simp at hv; rcases hv with rfl | rfl | rfl | rfl | rfl <;> rfl) fun w2 hb2 hf2 => ?_
  refine rd_of (cells_all hb2 rfl) ?_
  rw [he]
  exact ⟨none, 0, rfl, ⟨[], rfl, World.ownsRow_nil _ _ _ _, fun j m q h => by simp [dgZ] at h⟩, hf.trans' hf2 fun i hi e => by omega⟩
 refine br_dec (fun h11 => ?_) (fun h11 => ?_)
 ·exact fail 2 w1 (by unfold decD; rw [if_pos (by omega)]) hf1 ⟨_, rfl, hb1⟩
 obtain ⟨k, hk⟩ : ∃ k, k = ys.length - 2 := ⟨_, rfl⟩
 rw [show IntKind.i64.wrap ((ys.length : Int) - 2) = (k : Int) from (w64 (by omega)).trans (by omega)]
 refine ⟨fun w' => Fm none' w w', hf1.trans (Fm.drew w1), ?_⟩
 simp only [vq, eqV, nilV]
 have hs9 : (row Tryz.prog 9).k = .string := by rw [row9]
 refine slice_strH hs9 (by omega) ⟨fun w' _ => slice_strH hs9 (by omega) ⟨rfl, rfl⟩, ?_⟩
 simp only [vq, eqV, nilV]
 refine slice_strL hs9 (by omega) ⟨fun w' _ => slice_strL hs9 (by omega) ⟨rfl, rfl⟩, ?_⟩
 simp only [vq, eqV, nilV]
 have hbr : ∀ y ∈ ys.take k, 0 ≤ y ∧ y < 256 := fun y h => hy y (List.mem_of_mem_take h)
 have hbl : (ys.take k).length = k := by rw [List.length_take]; omega
 refine (sum28_c hbr (by omega)).mono ?_
 rintro _ _ ⟨rfl, rfl⟩
 simp only [vq, eqV, nilV]
 have hcl := crcF_lt (ys.take k) 65535 (by omega) hbr
 rw [show IntKind.i64.wrap ((crcF 65535 (ys.take k) : Nat) : Int) = ((crcF 65535 (ys.take k) : Nat) : Int) from w64 (by omega)]
 refine ⟨hf1.trans (Fm.drew w1), (two27_c hcl).mono ?_⟩
 rintro _ W2 ⟨rfl, hF27⟩
 simp only [vq, eqV, nilV]
 have hFw2 : Fm none' w W2 := (hf1.trans (Fm.drew w1)).trans hF27
 refine ⟨hFw2, ?_⟩
 have hbx2 : W2.heap[w.heap.size]? = some (.cells #[.int .u16 0, .bool false, .int .u16 0, .int .u32 0, .slice none 0 0] 102 (0, 0)) := hF27.keep (w := w1.drew) hb1 id
 have hbody : bodyB ys = ys.take k := by unfold bodyB; rw [hk]
 have hdl2 : (ys.drop k).length = 2 := by rw [List.length_drop]; omega
 have hdr : ∀ y ∈ ys.drop k, 0 ≤ y ∧ y < 256 := fun y h => hy y (List.mem_of_mem_drop h)
 have hsumeq : beB (crcF 65535 (ys.take k)) 2 = ys.drop k ↔ valB (ys.drop k) = crcF 65535 (ys.take k) := by
  constructor
  ·intro h; rw [← h, valB_2 hcl]
  ·intro h; rw [← h, beB_val2 hdl2 hdr]
 refine br_ndec (fun hne => ?_) (fun heq => ?_)
 ·rw [strOfNums_inj (beB_r _ _) hdr, hsumeq] at hne
  exact fail 4 W2 (by unfold decD; rw [if_neg (by omega), if_pos (by rw [hbody, ← hk]; exact hne)]) hFw2 ⟨_, rfl, hbx2⟩
 rw [strOfNums_inj (beB_r _ _) hdr, hsumeq] at heq
 obtain ⟨y2, hy2⟩ : ∃ y, ys[2]? = some y := ⟨ys[2]'(by omega), by simp⟩
 have hy2r := hy y2 (List.mem_of_getElem? hy2)
 have hpre : ∀ x : Dg × Int, decD ys = x ↔ (if 1024 < ys.length ∨ 1 < ys.getD 2 0 ∨ ((numsD ys).any = false ∧ ((numsD ys).last ≠ 0 ∨ (numsD ys).bits ≠ 0)) then (dgZ, 3)
   else if (decodeM ((bodyB ys).drop 9)).2 ≠ 0 then (dgZ, (decodeM ((bodyB ys).drop 9)).2) else ({ numsD ys with list := (decodeM ((bodyB ys).drop 9)).1 }, 0)) = x := by
  intro x
  unfold decD
  rw [if_neg (by omega), if_neg (by rw [hbody, ← hk]; simpa using heq)]
 have hgd : ys.getD 2 0 = y2 := by rw [List.getD_eq_getElem?_getD, hy2]; rfl
 have hany : (numsD ys).any = decide (y2 = 1) := by unfold numsD; rw [hgd]
 have form : (1024 < ys.length ∨ 1 < y2 ∨ ((numsD ys).any = false ∧ ((numsD ys).last ≠ 0 ∨ (numsD ys).bits ≠ 0))) → decD ys = (dgZ, 3) := by
  intro h
  rw [hpre, hgd, if_pos h]
 refine ⟨fun _ w' => w' = W2 ∧ ¬ (1024 < ys.length ∨ 1 < y2 ∨ ((numsD ys).any = false ∧ ((numsD ys).last ≠ 0 ∨ (numsD ys).bits ≠ 0))), ?_, ?_⟩
 ·refine br_dec (fun h => fail 3 W2 (form (.inl (by omega))) hFw2 ⟨_, rfl, hbx2⟩) fun h1 => ?_
  refine index_str hs9 hy hy2 ?_
  simp only [vq, eqV, nilV]
  refine br_dec (fun h => fail 3 W2 (form (.inr (.inl h))) hFw2 ⟨_, rfl, hbx2⟩) fun h2 => ?_
  refine index_str hs9 hy hy2 ?_
  simp only [vq, eqV, nilV]
  have hz := zero6 hy (by omega)
  refine br_dec (fun h0 => ?_) (fun h0 => ?_)
  ·refine slice_str (l := 3) (h := 9) hs9 (by omega) (by omega) ?_
   simp only [vq, eqV, nilV]
   have e6 : (⟨#[0, 0, 0, 0, 0, 0]⟩ : ByteArray) = strOfNums (List.replicate 6 0) := rfl
   rw [e6]
   have hiff := strOfNums_inj (xs := (ys.take 9).drop 3) (ys := List.replicate 6 0) (fun y h => hy y (List.mem_of_mem_take (List.mem_of_mem_drop h))) (by intro y h; rw [List.eq_of_mem_replicate h]; omega)
   refine br_ndec (fun h => ?_) (fun h => ?_)
   ·rw [hiff, hz] at h
    exact fail 3 W2 (form (.inr (.inr ⟨by rw [hany]; simp; omega, Decidable.not_not.1 h⟩))) hFw2 ⟨_, rfl, hbx2⟩
   ·rw [hiff, hz] at h
    intro h'
    rcases h' with h' | h' | h'
    ·omega
    ·omega
    ·exact h h'.2
  ·intro h'
   rcases h' with h' | h' | h'
   ·omega
   ·omega
   ·rw [hany] at h'
    have := h'.1
    simp at this; omega
 rintro u3 W3 ⟨rfl, hgo⟩
 refine slice_str (l := 9) (h := k) hs9 (by omega) (by omega) ?_
 simp only [vq, eqV, nilV]
 rw [← hbody]
 have hdl : ((bodyB ys).drop 9).length = k - 9 := by rw [hbody, List.length_drop, hbl]
 refine (decode19_c (ys := (bodyB ys).drop 9) (fun y h => hy y (List.mem_of_mem_take (List.mem_of_mem_drop h))) (by omega)).mono ?_
 rintro _ W4 ⟨sv, rfl, hown, hF4⟩
 obtain ⟨pm, cm, rfl, -⟩ := hown.at
 simp only [vq, eqV, nilV, List.getElem?_toArray, List.getElem?_cons_zero, List.getElem?_cons_succ]
 have hbx4 := hF4.keep hbx2 id
 have hF4w := hFw2.trans hF4
 refine br_ndec (fun he => ?_) (fun he => ?_)
 ·exact fail _ W4 (by rw [hpre, hgd, if_neg hgo, if_pos he]) hF4w ⟨_, rfl, hbx4⟩
 have hy2' : ∀ (w' : World) (K : Value → World → Prop), K (.int .u8 y2) w' → runs Tryz.prog (Instr.index 9 (.string (strOfNums ys)) (.int .i64 2)) w' K := fun w' K h => index_str hs9 hy hy2 h
 refine ⟨fun w' => True, trivial, ?_⟩
 refine slice_strH (h := 2) hs9 (by omega) ⟨fun w' _ => slice_strH (h := 2) hs9 (by omega) ⟨rfl, rfl⟩, ?_⟩
 simp only [vq, eqV, nilV]
 refine hy2' _ _ ⟨fun w' _ => hy2' _ _ ⟨rfl, rfl⟩, ?_⟩
 simp only [vq, eqV, nilV]
 refine slice_str (l := 3) (h := 5) hs9 (by omega) (by omega) ⟨fun w' _ => slice_str (l := 3) (h := 5) hs9 (by omega) (by omega) ⟨rfl, rfl⟩, ?_⟩
 simp only [vq, eqV, nilV]
 refine slice_str (l := 5) (h := 9) hs9 (by omega) (by omega) ⟨fun w' _ => slice_str (l := 5) (h := 9) hs9 (by omega) (by omega) ⟨rfl, rfl⟩, ?_⟩
 simp only [vq, eqV, nilV]
 refine (number32_c (ys := ys.take 2) (fun y h => hy y (List.mem_of_mem_take h)) (by rw [List.length_take]; omega)).mono ?_
 rintro _ _ ⟨rfl, rfl⟩
 simp only [vq, eqV, nilV]
 refine (number32_c (ys := (ys.take 5).drop 3) (fun y h => hy y (List.mem_of_mem_take (List.mem_of_mem_drop h))) (by rw [List.length_drop, List.length_take]; omega)).mono ?_
 rintro _ _ ⟨rfl, rfl⟩
 simp only [vq, eqV, nilV]
 refine (number32_c (ys := (ys.take 9).drop 5) (fun y h => hy y (List.mem_of_mem_take (List.mem_of_mem_drop h))) (by rw [List.length_drop, List.length_take]; omega)).mono ?_
 rintro _ _ ⟨rfl, rfl⟩
 simp only [vq, eqV, nilV]
 have hv1 := valB_lt 2 (ys.take 2) (by rw [List.length_take]; omega) fun y h => hy y (List.mem_of_mem_take h)
 have hv2 := valB_lt 2 ((ys.take 5).drop 3) (by rw [List.length_drop, List.length_take]; omega) fun y h => hy y (List.mem_of_mem_take (List.mem_of_mem_drop h))
 rw [show IntKind.u16.wrap ((valB (ys.take 2) : Nat) : Int) = ((valB (ys.take 2) : Nat) : Int) from w16 (by omega), show IntKind.u16.wrap ((valB ((ys.take 5).drop 3) : Nat) : Int) = ((valB ((ys.take 5).drop 3) : Nat) : Int) from w16 (by omega)]
 refine stC_all (w := W4.drew) hbx4 rfl (fun v hv => by simp at hv; rcases hv with rfl | rfl | rfl | rfl | rfl <;> rfl) fun W6 hb6 hf6 => ?_
 refine rd_of (cells_all hb6 rfl) ?_
 have hdec : decD ys = ({ numsD ys with list := (decodeM ((bodyB ys).drop 9)).1 }, 0) := by
  rw [hpre, hgd, if_neg hgo, if_neg (by simpa using he)]
 rw [hdec]
 refine ⟨pm, cm, ?_, ?_, (hF4w.trans (Fm.drew W4)).trans' hf6 fun i hi e => by omega⟩
 ·simp only [dgC, hany]; rfl
 refine OwnMsgs.keep (S := fun i => i = w.heap.size) (hown.base hFw2.size) ((Fm.drew W4).none.trans hf6) ?_
 rintro i cc t hi hbi ht rfl
 rw [hbx4] at hi; cases hi; rcases ht with h | h <;> cases h
end Go.Proofs.YtipikchkbmgloaaGreatDoor
namespace Go.Proofs.YtipikchkbmgloaaGreatDoor
set_option linter.unusedSimpArgs false
set_option linter.unusedVariables false
open Go Go.RowKit VC
variable {w : World}
def rwC (x : (Nat × Msg) × (Option Addr × Nat)) : List Value := .int .i64 (x.1.1 : Nat) :: msgC x.1.2 x.2.1 x.2.2
theorem rwC_len (x : (Nat × Msg) × (Option Addr × Nat)) : (rwC x).length = 24 := rfl
theorem rwC_one (x : (Nat × Msg) × (Option Addr × Nat)) : ∀ v ∈ rwC x, v.oneCell' = true := by
 intro v hv
 rcases List.mem_cons.1 hv with rfl | hv
 ·rfl
 ·exact msgC_one v hv
structure RWt (w : World) (N : Nat) (F : Nat → Prop) (wv : Value) (xs : List ((Nat × Msg) × (Option Addr × Nat))) : Prop where
 own : w.ownsRow 0 79 24 wv xs.length (xs.flatMap rwC)
 fw : ∀ i, wv.ownBlock = some i → F i
 byt : ∀ x ∈ xs, BytesAt w x.2.1 x.1.2.bytes ∧ ∀ ad, x.2.1 = some ad → x.1.2.bytes ≠ [] → ad.block < N
 rok : ∀ x ∈ xs, Rok x.1.2
def intsV (l : List Nat) : List Value := l.map fun x => Value.int .i64 (x : Nat)
def rsC (x : Ent × Value) : List Value := [.int .u16 x.1.seq, .int .u32 x.1.now, x.2]
theorem rsC_len (x : Ent × Value) : (rsC x).length = 3 := rfl
def HasR (w : World) (F : Nat → Prop) (x : Ent × Value) : Prop := w.ownsRow 0 3 1 x.2 x.1.ids.length (intsV x.1.ids) ∧ (∀ i, x.2.ownBlock = some i → F i) ∧ x.1.seq < 65536 ∧ x.1.now < 4294967296 ∧ x.1.ids.length ≤ 64
structure RSt (w : World) (F : Nat → Prop) (sv : Value) (ys : List (Ent × Value)) : Prop where
 own : w.ownsRow 0 106 3 sv ys.length (ys.flatMap rsC)
 fs : ∀ i, sv.ownBlock = some i → F i
 has : ∀ x ∈ ys, HasR w F x
def refCs (c : Ch) (D : Nat) (wv sv : Value) : Array Value := #[.int .u16 c.next, .int .i64 (c.pushed : Nat), wv, sv, .pointer (some ⟨D, 0, none⟩), .bool c.win.any, .int .i64 c.rtt, .bool c.timed, .int .u32 c.heard]
structure RefBox (w : World) (N : Nat) (F : Nat → Prop) (A D K : Nat) (c : Ch) (V : RWin) (wv sv nv : Value) : Prop where
 box : w.heap[A]? = some (.cells (refCs c D wv sv) 63 (0, 0))
 fA : F A
 lt : ∀ i, F i → i < w.heap.size
 hi : ∀ i, F i → N ≤ i
 win : RWinAt w F D V nv
 eq : WinEq c.win V
 next : c.next < 65536
 heard : c.heard < 4294967296
 rtt : c.rtt ≤ 1000
 few : V.near.length ≤ K
 pushed : c.pushed ≤ K
 many : c.wait.length ≤ 64
def RfcAt (w : World) (N : Nat) (F : Nat → Prop) (A K : Nat) (c : Ch) : Prop :=
 ∃ D V wv sv nv xs ys, RefBox w N F A D K c V wv sv nv ∧ RWt w N F wv xs ∧ RSt w F sv ys ∧ c.wait = xs.map (·.1) ∧ c.sent = ys.map (·.1)
section
variable {w' : World} {N A D K : Nat} {F F' S : Nat → Prop} {c : Ch} {V : RWin} {wv sv nv : Value} {xs : List ((Nat × Msg) × (Option Addr × Nat))} {ys : List (Ent × Value)}
theorem RWinAt.keep (h : RWinAt w F D V nv) (f : Fm S w w') (hS : ∀ i C t, w.heap[i]? = some (.cells C t (0, 0)) → F i → t = 73 ∨ t = 32 → ¬ S i) (hF : ∀ i, F i → F' i) : RWinAt w' F' D V nv := by
 obtain ⟨h1, h2, h3, h4⟩ := h
 refine ⟨f.keep h1 (hS _ _ _ h1 h3 (.inl rfl)), f.owns h2 fun i hi => ?_, hF D h3, fun i hi => hF i (h4 i hi)⟩
 obtain ⟨_, cur, hc⟩ := own_block h2 hi
 exact hS i _ _ hc (h4 i hi) (.inr rfl)
theorem RWt.keep (h : RWt w N F wv xs) (f : Fm S w w') (hS : ∀ i C, w.heap[i]? = some (.cells C 79 (0, 0)) → F i → wv.ownBlock = some i → ¬ S i) (hN : ∀ i, i < N → ¬ S i) (hF : ∀ i, F i → F' i) : RWt w' N F' wv xs := by
 obtain ⟨h2, h3, h4, h5⟩ := h
 refine ⟨f.owns h2 fun i hi => ?_, fun i hi => hF i (h3 i hi), fun x hx => ⟨(h4 x hx).1.keepN f fun ad e hne => hN _ ((h4 x hx).2 ad e hne), (h4 x hx).2⟩, h5⟩
 obtain ⟨_, cur, hc⟩ := own_block h2 hi
 exact hS i _ hc (h3 i hi) hi
theorem HasR.keep {x : Ent × Value} (h : HasR w F x) (f : Fm S w w') (hS : ∀ i C, w.heap[i]? = some (.cells C 3 (0, 0)) → F i → ¬ S i) (hF : ∀ i, F i → F' i) : HasR w' F' x := by
 obtain ⟨h1, h2, h3⟩ := h
 refine ⟨f.owns h1 fun i hi => ?_, fun i hi => hF i (h2 i hi), h3⟩
 obtain ⟨_, cur, hc⟩ := own_block h1 hi
 exact hS i _ hc (h2 i hi)
theorem RSt.keep (h : RSt w F sv ys) (f : Fm S w w') (hS : ∀ i C t, w.heap[i]? = some (.cells C t (0, 0)) → F i → t = 106 ∧ sv.ownBlock = some i ∨ t = 3 → ¬ S i) (hF : ∀ i, F i → F' i) : RSt w' F' sv ys := by
 obtain ⟨h2, h3, h4⟩ := h
 refine ⟨f.owns h2 fun i hi => ?_, fun i hi => hF i (h3 i hi), fun x hx => (h4 x hx).keep f (fun i C hi hFi => hS i C 3 hi hFi (.inr rfl)) hF⟩
 obtain ⟨_, cur, hc⟩ := own_block h2 hi
 exact hS i _ _ hc (h3 i hi) (.inl ⟨rfl, hi⟩)
theorem RefBox.keep (h : RefBox w N F A D K c V wv sv nv) (f : Fm S w w') (hS : ∀ i, F i → ¬ S i) : RefBox w' N F A D K c V wv sv nv :=
 { h with box := f.keep h.box (hS A h.fA), lt := fun i hi => Nat.lt_of_lt_of_le (h.lt i hi) f.size, win := h.win.keep f (fun i _ _ _ hF _ => hS i hF) fun _ => id }
theorem RfcAt.keep (h : RfcAt w N F A K c) (f : Fm S w w') (hS : ∀ i, F i → ¬ S i) (hN : ∀ i, i < N → ¬ S i) : RfcAt w' N F A K c := by
 obtain ⟨D, V, wv, sv, nv, xs, ys, h1, h2, h3, h4⟩ := h
 exact ⟨D, V, wv, sv, nv, xs, ys, h1.keep f hS, h2.keep f (fun i _ _ hF _ => hS i hF) hN fun _ => id, h3.keep f (fun i _ _ _ hF _ => hS i hF) fun _ => id, h4⟩
theorem RefBox.more {K' : Nat} (h : RefBox w N F A D K c V wv sv nv) (hK : K ≤ K') : RefBox w N F A D K' c V wv sv nv := { h with few := Nat.le_trans h.few hK, pushed := Nat.le_trans h.pushed hK }
theorem RefBox.up (h : RefBox w N F A D K c V wv sv nv) (hF : ∀ i, F i → F' i) (hl : ∀ i, F' i → i < w.heap.size) (hh : ∀ i, F' i → N ≤ i) : RefBox w N F' A D K c V wv sv nv :=
 { h with fA := hF A h.fA, lt := hl, hi := hh, win := ⟨h.win.box, h.win.own, hF _ h.win.fD, fun i hi => hF i (h.win.fn i hi)⟩ }
theorem RfcAt.more {K' : Nat} (h : RfcAt w N F A K c) (hK : K ≤ K') : RfcAt w N F A K' c := by
 obtain ⟨D, V, wv, sv, nv, qs, hs, h1, h2, h3⟩ := h
 exact ⟨D, V, wv, sv, nv, qs, hs, h1.more hK, h2, h3⟩
theorem RWt.up (h : RWt w N F wv xs) (hF : ∀ i, F i → F' i) : RWt w N F' wv xs := { h with fw := fun i hi => hF i (h.fw i hi) }
theorem HasR.up {x : Ent × Value} (h : HasR w F x) (hF : ∀ i, F i → F' i) : HasR w F' x := ⟨h.1, fun i hi => hF i (h.2.1 i hi), h.2.2⟩
theorem RSt.up (h : RSt w F sv ys) (hF : ∀ i, F i → F' i) : RSt w F' sv ys := ⟨h.own, fun i hi => hF i (h.fs i hi), fun x hx => (h.has x hx).up hF⟩
theorem RfcAt.up (h : RfcAt w N F A K c) (hF : ∀ i, F i → F' i) (hl : ∀ i, F' i → i < w.heap.size) (hh : ∀ i, F' i → N ≤ i) : RfcAt w N F' A K c := by
 obtain ⟨D, V, wv, sv, nv, xs, ys, h1, h2, h3, h4⟩ := h
 exact ⟨D, V, wv, sv, nv, xs, ys, h1.up hF hl hh, h2.up hF, h3.up hF, h4⟩
theorem RfcAt.lt (h : RfcAt w N F A K c) : ∀ i, F i → i < w.heap.size := by
 obtain ⟨D, V, wv, sv, nv, qs, hs, h1, h2, h3⟩ := h
 exact h1.lt
theorem RfcAt.hi (h : RfcAt w N F A K c) : ∀ i, F i → N ≤ i := by
 obtain ⟨D, V, wv, sv, nv, qs, hs, h1, h2, h3⟩ := h
 exact h1.hi
theorem rnew6_c (hN : N ≤ w.heap.size) : callV Tryz.prog 6 [] w fun v w' => ∃ A, v = .pointer (some ⟨A, 0, none⟩) ∧ RfcAt w' N (FNew none' w w') A 0 newC ∧ Fm none' w w' := by
 refine vc6 w _ ?_
 refine allocC_of fun w1 hb1 hs1 hf1 => ?_
 refine allocC_of fun w3 hb3 hs3 hf3 => ?_
 have hF := hf1.trans hf3
 refine ⟨_, rfl, ⟨w.heap.size, ⟨false, 0, []⟩, .slice none 0 0, .slice none 0 0, .slice none 0 0, [], [], ⟨hb3, .inr ⟨by omega, by omega⟩, fun i hi => hi.elim (fun h => h.elim) (·.2), fun i hi => hi.elim (fun h => h.elim) (fun h => by omega), ?_, WinEq.start, by decide, by decide, by decide, by simp, by simp [newC], by simp [newC]⟩, ?_, ?_, rfl, rfl⟩, hF⟩
 ·exact ⟨hf3.keep hb1 id, World.ownsRow_nil _ _ _ _, .inr ⟨Nat.le_refl _, by omega⟩, fun i hi => by cases hi⟩
 ·exact ⟨World.ownsRow_nil _ _ _ _, (fun i hi => by cases hi), (fun x hx => by simp at hx), fun x hx => by simp at hx⟩
 ·exact ⟨World.ownsRow_nil _ _ _ _, (fun i hi => by cases hi), fun x hx => by simp at hx⟩
theorem wvSl (h : RWt w N F wv xs) : ∃ p cp, wv = .slice p xs.length cp := by
 obtain ⟨p, cp, rfl, -⟩ := own_readS h.own
 exact ⟨p, cp, rfl⟩
theorem svSl (h : RSt w F sv ys) : ∃ p cp, sv = .slice p ys.length cp := by
 obtain ⟨p, cp, rfl, -⟩ := own_readS h.own
 exact ⟨p, cp, rfl⟩
set_option maxRecDepth 20000 in
set_option maxHeartbeats 2000000 in
theorem rpush8_c {m : Msg} {p : Option Addr} {cp : Nat} (h : RfcAt w N F A K c) (hm : Mok m) (hy : BytesAt w p m.bytes) (hp : ∀ ad, p = some ad → m.bytes ≠ [] → ad.block < N) (hN : N ≤ w.heap.size) (hl : m.bytes.length ≤ 1000000) (hK : K ≤ 1000000) :
  callV Tryz.prog 8 [.pointer (some ⟨A, 0, none⟩), .agg (msgC m p cp).toArray] w fun v w' => v = .int .i64 (pushC c m).1 ∧ RfcAt w' N (FNew F w w') A (K + 1) (pushC c m).2 ∧ Fm F w w' := by
 have h0 := h
 obtain ⟨D, V, wv, sv, nv, xs, ys, hB, hW, hS, hwx, hsy⟩ := h
 have hwl : c.wait.length = xs.length := by rw [hwx, List.length_map]
 unfold msgC
 apply vc8
 refine allocC_of fun w1 hb1 hs1 hf1 => ?_
 change w1.heap[w.heap.size]? = some (.cells (msgC m p cp).toArray 41 (0, 0)) at hb1
 refine rd_of (v := msgC m p cp) (cells_all hb1 rfl) ?_
 have hpw : ∀ ad, p = some ad → m.bytes ≠ [] → ad.block < w.heap.size := fun ad e hne => Nat.lt_of_lt_of_le (hp ad e hne) hN
 have stay : ∀ w', Fm none' w w' → RfcAt w' N (FNew F w w') A (K + 1) c := fun w' hf =>
  ((h0.keep hf (fun _ _ => id) fun _ _ => id).more (by omega)).up (fun i h => .inl h) (fun i hi => hi.elim (fun h => Nat.lt_of_lt_of_le (hB.lt i h) hf.size) (·.2)) fun i hi => hi.elim (hB.hi i) fun h => by omega
 refine (right17_c hm (by omega) (hy.keep hf1 fun _ _ => id)).mono ?_
 rintro _ w4 ⟨rfl, hf4⟩
 simp only [vq, eqV, nilV]
 have hF4 := hf1.trans hf4
 cases hr : rightM m with
 | false =>
  simp only [Bool.not_false, vq, eqV, nilV]
  have e : pushC c m = (1, c) := by unfold pushC; rw [if_pos hr]
  rw [e]
  exact ⟨rfl, stay w4 hF4, hF4.none⟩
 | true =>
  simp only [Bool.not_true, vq, eqV, nilV]
  obtain ⟨pw, cw, hwv⟩ := wvSl hW
  have hbox4 := hF4.keep hB.box id
  have k2 : w4.cell? ⟨A, 2, none⟩ = some (.slice pw xs.length cw) := by rw [← hwv]; exact cellOf hbox4 rfl
  have k1 : w4.cell? ⟨A, 1, none⟩ = some (.int .i64 (c.pushed : Nat)) := cellOf hbox4 rfl
  have hmany := hB.many
  have hpush := hB.pushed
  simp only [addr_add, Nat.zero_add, k2, vq, eqV, nilV]
  refine br_dec (fun hfull => ?_) (fun hfull => ?_)
  ·have e : pushC c m = (5, c) := by unfold pushC; rw [if_neg (by rw [hr]; simp), if_pos (by omega)]
   rw [e]
   exact ⟨rfl, stay w4 hF4, hF4.none⟩
  have e : pushC c m = (0, { c with wait := c.wait ++ [(c.pushed, m)], pushed := c.pushed + 1 }) := by unfold pushC; rw [if_neg (by rw [hr]; simp), if_neg (by omega)]
  rw [e]
  have hok : Rok m := rok_of hm (by omega) hr
  have hb4 := hf4.keep hb1 id
  have hneA : ¬ wv.ownBlock = some A := fun hw => by
   obtain ⟨_, cur, hc⟩ := own_block hW.own hw
   rw [hB.box] at hc; cases hc
  have hneN : ¬ wv.ownBlock = some w.heap.size := fun hw => by have := hB.lt _ (hW.fw _ hw); omega
  have kM : cellsAt w4.drew ⟨w.heap.size, 0, none⟩ 23 = some (msgC m p cp) := cells_all (w := w4.drew) hb4 rfl
  refine ⟨fun W => Fm (fun i => wv.ownBlock = some i) w4.drew W, Fm.refl _ _, ?_⟩
  refine rd_of k2 ⟨fun W hf => rd_of (hf.cell (w := w4.drew) k2 hneA) rfl, ?_⟩
  simp only [vq, eqV, nilV]
  refine rd_of k1 ⟨fun W hf => rd_of (hf.cell (w := w4.drew) k1 hneA) rfl, ?_⟩
  simp only [vq, eqV, nilV]
  refine rd_of kM ⟨fun W hf => rd_of (hf.cells hneN kM) rfl, ?_⟩
  refine rd_of (v := ()) rfl ⟨fun W hf => rd_of (v := ()) rfl trivial, ?_⟩
  simp only [List.append_eq, List.append_nil]
  refine build_Sg (cs := rwC ((c.pushed, m), (p, cp))) (by rw [row59]) row79 rfl (by omega) (by omega) rfl fun w44 hb44 hs44 hf44 => ?_
  simp only [vq, eqV, nilV]
  refine ⟨hf44.none, ?_⟩
  have hown44 : w44.ownsRow 0 79 24 (.slice pw xs.length cw) xs.length (xs.flatMap rwC) := by
   rw [← hwv]
   exact (hF4.trans ((Fm.drew w4).trans hf44)).owns hW.own fun _ _ => id
  refine append_rS (m := 1) (ys := rwC ((c.pushed, m), (p, cp))) (by rw [row59]) row79 rfl (by omega) hown44 rfl (rwC_one _) (fun k y hy => ⟨_, _, rfl, by rw [Nat.zero_add]; exact cellOf hb44 (by simpa using hy)⟩) (Nat.zero_le _) (by simp only [maxLen]; omega) (by omega) fun p' c' w49 ho49 hf49 hblk49 => ?_
  simp only [vq, eqV, nilV]
  rw [← hwv] at hf49 hblk49
  have hF49 : Fm (fun i => wv.ownBlock = some i) w4.drew w49 := hf44.none.trans hf49
  refine ⟨hF49, ?_⟩
  have hbox49 := hF49.keep (w := w4.drew) hbox4 hneA
  refine stC_one hbox49 (by simp [refCs]) rfl fun w53 hb53 hf53 => ?_
  have k53 : w53.cell? ⟨A, 1, none⟩ = some (.int .i64 (c.pushed : Nat)) := cellOf hb53 rfl
  simp only [k53, vq, eqV, nilV]
  rw [show IntKind.i64.wrap ((c.pushed : Int) + 1) = ((c.pushed + 1 : Nat) : Int) from (w64 (by omega)).trans (by omega)]
  refine stC_one hb53 (by simp [refCs]) rfl fun w56 hb56 hf56 => ?_
  have hfA : Fm (fun i => i = A) w49 w56 := hf53.trans hf56
  have hall : Fm (fun i => wv.ownBlock = some i ∨ i = A) w w56 := ((hF4.trans (Fm.drew w4)).none.trans (hF49.mono fun i _ h => .inl h)).trans (hfA.mono fun i _ h => .inr h)
  have hFall : Fm F w w56 := hall.mono fun i _ h => h.elim (hW.fw i) fun e => e ▸ hB.fA
  have hsz := hFall.size
  have hno : ∀ i C t, w.heap[i]? = some (.cells C t (0, 0)) → t ≠ 79 → t ≠ 63 → ¬ (wv.ownBlock = some i ∨ i = A) := by
   rintro i C t hi h1 h2 (h | rfl)
   ·obtain ⟨_, cur, hc⟩ := own_block hW.own h
    rw [hi] at hc; cases hc; exact h1 rfl
   ·rw [hB.box] at hi; cases hi; exact h2 rfl
  have hnoN : ∀ i, i < N → ¬ (wv.ownBlock = some i ∨ i = A) := by
   rintro i hi (h | rfl)
   ·have := hB.hi i (hW.fw i h); omega
   ·have := hB.hi i hB.fA; omega
  obtain ⟨F', hF'⟩ : ∃ F', F' = FNew F w w56 := ⟨_, rfl⟩
  have hsub : ∀ i, F i → F' i := fun i hi => by rw [hF']; exact .inl hi
  rw [← hF']
  have hlen1 : (c.wait ++ [(c.pushed, m)]).length = c.wait.length + 1 := by simp
  refine ⟨⟨D, V, .slice p' (xs.length + 1) c', sv, nv, xs ++ [((c.pushed, m), (p, cp))], ys, ⟨hb56, hsub A hB.fA, fun i hi => ?_, fun i hi => ?_, hB.win.keep hall (fun i C t hi _ ht => hno i C t hi (by rcases ht with rfl | rfl <;> decide) (by rcases ht with rfl | rfl <;> decide)) hsub, hB.eq, hB.next, hB.heard, hB.rtt, Nat.le_trans hB.few (by omega), by show c.pushed + 1 ≤ K + 1; omega, by show (c.wait ++ [(c.pushed, m)]).length ≤ 64; rw [hlen1]; omega⟩, ⟨?_, ?_, ?_, ?_⟩, ?_, by show c.wait ++ [(c.pushed, m)] = _; rw [hwx, List.map_append]; rfl, hsy⟩, hFall⟩
  ·rw [hF'] at hi; exact hi.elim (fun h => Nat.lt_of_lt_of_le (hB.lt i h) hsz) (·.2)
  ·rw [hF'] at hi; exact hi.elim (hB.hi i) fun h => by omega
  ·have e1 : (xs ++ [((c.pushed, m), (p, cp))]).flatMap rwC = xs.flatMap rwC ++ rwC ((c.pushed, m), (p, cp)) := by
    rw [List.flatMap_append]; simp
   rw [List.length_append, e1]
   refine hfA.owns ho49 fun i hi e => ?_
   obtain ⟨_, cur, hc⟩ := own_block ho49 hi
   rw [e, hbox49] at hc; cases hc
  ·intro i hi
   rcases hblk49 with h | h
   ·rw [h] at hi; exact hsub i (hW.fw i hi)
   ·rw [h] at hi; cases hi
    obtain ⟨_, cur, hc⟩ := own_block ho49 h
    have h1 := lt_of_blk hc
    have h2 := hfA.size
    have h3 := hF4.size
    have h4 : w4.heap.size ≤ w44.heap.size := hf44.size
    rw [hF']
    exact .inr ⟨by omega, by omega⟩
  ·intro x hx
   rcases List.mem_append.1 hx with hx' | hx'
   ·exact ⟨(hW.byt x hx').1.keepN hall fun ad e hne => hnoN _ ((hW.byt x hx').2 ad e hne), (hW.byt x hx').2⟩
   ·obtain rfl : x = ((c.pushed, m), (p, cp)) := by simpa using hx'
    exact ⟨hy.keepN hall fun ad e hne => hnoN _ (hp ad e hne), hp⟩
  ·intro x hx
   rcases List.mem_append.1 hx with hx | hx
   ·exact hW.rok x hx
   ·obtain rfl : x = ((c.pushed, m), (p, cp)) := by simpa using hx
    exact hok
  ·exact hS.keep hall (fun i C t hi _ ht => hno i C t hi (by rcases ht with ⟨rfl, _⟩ | rfl <;> decide) (by rcases ht with ⟨rfl, _⟩ | rfl <;> decide)) hsub
end
end Go.Proofs.YtipikchkbmgloaaGreatDoor
namespace Go.Proofs.YtipikchkbmgloaaGreatDoor
set_option linter.unusedSimpArgs false
set_option linter.unusedVariables false
open Go VC
theorem vc11 (a : Addr) (bp : Option Addr) (bn : Nat) (bc : Nat) (c : Int) (w : World) (R : Value → World → Prop)
 (h : cutC (fun u0 => heldC (World.drew w) fun u1 => (∀ (w2 : World), u1 w2 → Value.pointer (some a) = Value.pointer (some a) ∧ w2 = w2) ∧ (∀ (w4 : World), u1 w4 → Value.pointer (some a) = Value.pointer (some a) ∧ w4 = w4) ∧ (∀ (w6 : World), u1 w6 → Value.pointer (some a) = Value.pointer (some a) ∧ w6 = w6) ∧ rd (World.cell? (World.drew w) a) fun v8 => (∀ (w9 : World), u1 w9 → rd (World.cell? w9 a) fun v11 => v11 = v8 ∧ w9 = w9) ∧ isK IntKind.u16 v8 fun i12 => (∀ (w13 : World), u1 w13 → Value.pointer (some a) = Value.pointer (some a) ∧ w13 = w13) ∧ (∀ (w15 : World), u1 w15 → Value.pointer (some a) = Value.pointer (some a) ∧ w15 = w15) ∧ (∀ (w17 : World), u1 w17 → Value.pointer (some (Addr.add a (5 : Nat))) = Value.pointer (some (Addr.add a (5 : Nat))) ∧ w17 = w17) ∧ rd (World.cell? (World.drew w) (Addr.add a (5 : Nat))) fun v19 => (∀ (w20 : World), u1 w20 → rd (World.cell? w20 (Addr.add a (5 : Nat))) fun v22 => v22 = v19 ∧ w20 = w20) ∧ isB v19 fun t23 => (∀ (w24 : World), u1 w24 → Value.slice bp bn bc = Value.slice bp bn bc ∧ w24 = w24) ∧ (runs Tryz.prog (Instr.buildSlice (45 : Nat) (0 : Nat) #[]) (World.drew w) fun v26 w27 => isSl v26 fun o28 n29 n30 => u1 w27 ∧ (runs Tryz.prog (Builtin.append_ #[(45 : Nat), (45 : Nat)] (45 : Nat) #[Value.slice o28 n29 n30, Value.slice bp bn bc]) w27 fun v31 w32 => isSl v31 fun o33 n34 n35 => u1 w32 ∧ (∀ (w36 : World), u1 w36 → Value.agg #[Value.int IntKind.u16 i12, Value.bool t23, Value.int IntKind.u16 (0 : Int), Value.int IntKind.u32 (0 : Int), Value.slice o33 n34 n35] = Value.agg #[Value.int IntKind.u16 i12, Value.bool t23, Value.int IntKind.u16 (0 : Int), Value.int IntKind.u32 (0 : Int), Value.slice o33 n34 n35] ∧ w36 = w36) ∧ allocC w32 (Obj.cells #[Value.int IntKind.u16 (0 : Int), Value.bool false, Value.int IntKind.u16 (0 : Int), Value.int IntKind.u32 (0 : Int), Value.slice none (0 : Nat) (0 : Nat)] (102 : Nat)) fun n38 w39 => u1 w39 ∧ stC w39 { block := n38, off := (0 : Nat) : Addr } [Value.int IntKind.u16 i12, Value.bool t23, Value.int IntKind.u16 (0 : Int), Value.int IntKind.u32 (0 : Int), Value.slice o33 n34 n35] fun w40 => u0 (alist [((8 : Nat), Value.pointer (some { block := n38, off := (0 : Nat) : Addr }))]) w40) ∧ allocC w27 (Obj.cells #[Value.int IntKind.u16 (0 : Int), Value.bool false, Value.int IntKind.u16 (0 : Int), Value.int IntKind.u32 (0 : Int), Value.slice none (0 : Nat) (0 : Nat)] (102 : Nat)) fun n41 w42 => u1 w42 ∧ runs Tryz.prog (Builtin.append_ #[(45 : Nat), (45 : Nat)] (45 : Nat) #[Value.slice o28 n29 n30, Value.slice bp bn bc]) w42 fun v43 w44 => isSl v43 fun o45 n46 n47 => u1 w44 ∧ (∀ (w48 : World), u1 w48 → Value.agg #[Value.int IntKind.u16 i12, Value.bool t23, Value.int IntKind.u16 (0 : Int), Value.int IntKind.u32 (0 : Int), Value.slice o45 n46 n47] = Value.agg #[Value.int IntKind.u16 i12, Value.bool t23, Value.int IntKind.u16 (0 : Int), Value.int IntKind.u32 (0 : Int), Value.slice o45 n46 n47] ∧ w48 = w48) ∧ stC w44 { block := n41, off := (0 : Nat) : Addr } [Value.int IntKind.u16 i12, Value.bool t23, Value.int IntKind.u16 (0 : Int), Value.int IntKind.u32 (0 : Int), Value.slice o45 n46 n47] fun w50 => u0 (alist [((8 : Nat), Value.pointer (some { block := n41, off := (0 : Nat) : Addr }))]) w50) ∧ allocC (World.drew w) (Obj.cells #[Value.int IntKind.u16 (0 : Int), Value.bool false, Value.int IntKind.u16 (0 : Int), Value.int IntKind.u32 (0 : Int), Value.slice none (0 : Nat) (0 : Nat)] (102 : Nat)) fun n51 w52 => u1 w52 ∧ runs Tryz.prog (Instr.buildSlice (45 : Nat) (0 : Nat) #[]) w52 fun v53 w54 => isSl v53 fun o55 n56 n57 => u1 w54 ∧ runs Tryz.prog (Builtin.append_ #[(45 : Nat), (45 : Nat)] (45 : Nat) #[Value.slice o55 n56 n57, Value.slice bp bn bc]) w54 fun v58 w59 => isSl v58 fun o60 n61 n62 => u1 w59 ∧ (∀ (w63 : World), u1 w63 → Value.agg #[Value.int IntKind.u16 i12, Value.bool t23, Value.int IntKind.u16 (0 : Int), Value.int IntKind.u32 (0 : Int), Value.slice o60 n61 n62] = Value.agg #[Value.int IntKind.u16 i12, Value.bool t23, Value.int IntKind.u16 (0 : Int), Value.int IntKind.u32 (0 : Int), Value.slice o60 n61 n62] ∧ w63 = w63) ∧ stC w59 { block := n51, off := (0 : Nat) : Addr } [Value.int IntKind.u16 i12, Value.bool t23, Value.int IntKind.u16 (0 : Int), Value.int IntKind.u32 (0 : Int), Value.slice o60 n61 n62] fun w65 => u0 (alist [((8 : Nat), Value.pointer (some { block := n51, off := (0 : Nat) : Addr }))]) w65) fun u66 => ∀ (u67 : Nat → Value) (w68 : World), u66 (alist [((8 : Nat), u67 (8 : Nat))]) w68 → cutC (fun u70 => rd (World.cell? w68 (Addr.add a (5 : Nat))) fun v71 => isB v71 fun t72 => br t72 (rd (World.cell? w68 (Addr.add a (4 : Nat))) fun v73 => isP v73 fun o74 => callV Tryz.prog (28 : Nat) [Value.pointer o74] w68 fun v75 w76 => isTup v75 fun l77 => rd l77[(0 : Nat)]? fun v78 => isK IntKind.u16 v78 fun i79 => isTup v75 fun l80 => rd l80[(1 : Nat)]? fun v81 => isK IntKind.u32 v81 fun i82 => isPtr (u67 (8 : Nat)) fun a83 => stC w76 (Addr.add a83 (2 : Nat)) [Value.int IntKind.u16 i79] fun w84 => isPtr (u67 (8 : Nat)) fun a85 => stC w84 (Addr.add a85 (3 : Nat)) [Value.int IntKind.u32 i82] fun w86 => u70 (alist []) w86) (u70 (alist []) w68)) fun u87 => ∀ (u88 : Nat → Value) (w89 : World), u87 (alist []) w89 → isPtr (u67 (8 : Nat)) fun a91 => rd (cellsAt w89 a91 (5 : Nat)) fun l92 => callV Tryz.prog (29 : Nat) [Value.agg (List.toArray l92)] w89 fun v93 w94 => isTup v93 fun l95 => rd l95[(0 : Nat)]? fun v96 => isStr v96 fun x97 => isTup v93 fun l98 => rd l98[(1 : Nat)]? fun v99 => isK IntKind.i64 v99 fun i100 => br (!decide (i100 = (0 : Int))) (R (Value.tuple #[Value.string { data := #[] : ByteArray }, Value.int IntKind.i64 i100]) w94) (rd (World.cell? w94 a) fun v101 => isK IntKind.u16 v101 fun i102 => allocC w94 (Obj.cells #[Value.int IntKind.u16 (0 : Int), Value.int IntKind.u32 (0 : Int), Value.slice none (0 : Nat) (0 : Nat)] (106 : Nat)) fun n103 w104 => stC w104 { block := n103, off := (0 : Nat) : Addr } [Value.int IntKind.u16 i102, Value.int IntKind.u32 c, Value.slice none (0 : Nat) (0 : Nat)] fun w105 => cutC (fun u106 => loopC (alist [((9 : Nat), Value.string x97), ((12 : Nat), Value.int IntKind.i64 (0 : Int))]) w105 fun u107 u108 => ∀ (u109 : Nat → Value) (w110 : World), u107 (alist [((9 : Nat), u109 (9 : Nat)), ((12 : Nat), u109 (12 : Nat))]) w110 → isK IntKind.i64 (u109 (12 : Nat)) fun i112 => rd (World.cell? w110 (Addr.add a (2 : Nat))) fun v113 => isSl v113 fun o114 n115 n116 => br (decide (i112 < (↑n115 : Int))) (heldC (World.drew w110) fun u117 => isPtr (u67 (8 : Nat)) fun a118 => (∀ (w119 : World), u117 w119 → isPtr (u67 (8 : Nat)) fun a121 => Value.pointer (some (Addr.add a121 (4 : Nat))) = Value.pointer (some (Addr.add a118 (4 : Nat))) ∧ w119 = w119) ∧ rd (World.cell? (World.drew w110) (Addr.add a118 (4 : Nat))) fun v122 => (∀ (w123 : World), u117 w123 → rd (World.cell? w123 (Addr.add a118 (4 : Nat))) fun v125 => v125 = v122 ∧ w123 = w123) ∧ isSl v122 fun o126 n127 n128 => (∀ (w129 : World), u117 w129 → Value.pointer (some a) = Value.pointer (some a) ∧ w129 = w129) ∧ (∀ (w131 : World), u117 w131 → Value.pointer (some a) = Value.pointer (some a) ∧ w131 = w131) ∧ (∀ (w133 : World), u117 w133 → Value.pointer (some (Addr.add a (2 : Nat))) = Value.pointer (some (Addr.add a (2 : Nat))) ∧ w133 = w133) ∧ rd (World.cell? (World.drew w110) (Addr.add a (2 : Nat))) fun v135 => (∀ (w136 : World), u117 w136 → rd (World.cell? w136 (Addr.add a (2 : Nat))) fun v138 => v138 = v135 ∧ w136 = w136) ∧ isSl v135 fun o139 n140 n141 => (∀ (w142 : World), u117 w142 → u109 (12 : Nat) = u109 (12 : Nat) ∧ w142 = w142) ∧ isK IntKind.i64 (u109 (12 : Nat)) fun i144 => rd o139 fun a145 => ((0 : Int) ≤ i144 ∧ i144 < (↑n140 : Int)) ∧ (∀ (w146 : World), u117 w146 → rd o139 fun a148 => ((0 : Int) ≤ i144 ∧ i144 < (↑n140 : Int)) ∧ Value.pointer (some (Addr.add a148 (Int.toNat i144 * (24 : Nat)))) = Value.pointer (some (Addr.add a145 (Int.toNat i144 * (24 : Nat)))) ∧ w146 = w146) ∧ (∀ (w149 : World), u117 w149 → Value.pointer (some (Addr.add (Addr.add a145 (Int.toNat i144 * (24 : Nat))) (1 : Nat))) = Value.pointer (some (Addr.add (Addr.add a145 (Int.toNat i144 * (24 : Nat))) (1 : Nat))) ∧ w149 = w149) ∧ rd (cellsAt (World.drew w110) (Addr.add (Addr.add a145 (Int.toNat i144 * (24 : Nat))) (1 : Nat)) (23 : Nat)) fun l151 => (∀ (w152 : World), u117 w152 → rd (cellsAt w152 (Addr.add (Addr.add a145 (Int.toNat i144 * (24 : Nat))) (1 : Nat)) (23 : Nat)) fun l154 => Value.agg (List.toArray l154) = Value.agg (List.toArray l151) ∧ w152 = w152) ∧ (runs Tryz.prog (Instr.buildSlice (45 : Nat) (0 : Nat) #[]) (World.drew w110) fun v155 w156 => isSl v155 fun o157 n158 n159 => u117 w156 ∧ (runs Tryz.prog (Builtin.append_ #[(45 : Nat), (45 : Nat)] (45 : Nat) #[Value.slice o157 n158 n159, Value.slice o126 n127 n128]) w156 fun v160 w161 => isSl v160 fun o162 n163 n164 => u117 w161 ∧ runs Tryz.prog (Instr.buildSlice (45 : Nat) (1 : Nat) #[((0 : Nat), Value.agg (List.toArray l151))]) w161 fun v165 w166 => isSl v165 fun o167 n168 n169 => u117 w166 ∧ runs Tryz.prog (Builtin.append_ #[(45 : Nat), (45 : Nat)] (45 : Nat) #[Value.slice o162 n163 n164, Value.slice o167 n168 n169]) w166 fun v170 w171 => isSl v170 fun o172 n173 n174 => u117 w171 ∧ isPtr (u67 (8 : Nat)) fun a175 => stC w171 (Addr.add a175 (4 : Nat)) [Value.slice o172 n173 n174] fun w176 => isPtr (u67 (8 : Nat)) fun a177 => rd (cellsAt w176 a177 (5 : Nat)) fun l178 => callV Tryz.prog (29 : Nat) [Value.agg (List.toArray l178)] w176 fun v179 w180 => isTup v179 fun l181 => rd l181[(0 : Nat)]? fun v182 => isStr v182 fun x183 => isTup v179 fun l184 => rd l184[(1 : Nat)]? fun v185 => isK IntKind.i64 v185 fun i186 => br (!decide (i186 = (0 : Int))) (u106 (alist [((9 : Nat), u109 (9 : Nat))]) w180) (heldC (World.drew w180) fun u187 => (∀ (w188 : World), u187 w188 → Value.pointer (some { block := n103, off := (2 : Nat) : Addr }) = Value.pointer (some { block := n103, off := (2 : Nat) : Addr }) ∧ w188 = w188) ∧ rd (World.cell? (World.drew w180) { block := n103, off := (2 : Nat) : Addr }) fun v190 => (∀ (w191 : World), u187 w191 → rd (World.cell? w191 { block := n103, off := (2 : Nat) : Addr }) fun v193 => v193 = v190 ∧ w191 = w191) ∧ isSl v190 fun o194 n195 n196 => (∀ (w197 : World), u187 w197 → Value.pointer (some a) = Value.pointer (some a) ∧ w197 = w197) ∧ (∀ (w199 : World), u187 w199 → Value.pointer (some a) = Value.pointer (some a) ∧ w199 = w199) ∧ (∀ (w201 : World), u187 w201 → Value.pointer (some (Addr.add a (2 : Nat))) = Value.pointer (some (Addr.add a (2 : Nat))) ∧ w201 = w201) ∧ rd (World.cell? (World.drew w180) (Addr.add a (2 : Nat))) fun v203 => (∀ (w204 : World), u187 w204 → rd (World.cell? w204 (Addr.add a (2 : Nat))) fun v206 => v206 = v203 ∧ w204 = w204) ∧ isSl v203 fun o207 n208 n209 => (∀ (w210 : World), u187 w210 → u109 (12 : Nat) = u109 (12 : Nat) ∧ w210 = w210) ∧ isK IntKind.i64 (u109 (12 : Nat)) fun i212 => rd o207 fun a213 => ((0 : Int) ≤ i212 ∧ i212 < (↑n208 : Int)) ∧ (∀ (w214 : World), u187 w214 → rd o207 fun a216 => ((0 : Int) ≤ i212 ∧ i212 < (↑n208 : Int)) ∧ Value.pointer (some (Addr.add a216 (Int.toNat i212 * (24 : Nat)))) = Value.pointer (some (Addr.add a213 (Int.toNat i212 * (24 : Nat)))) ∧ w214 = w214) ∧ (∀ (w217 : World), u187 w217 → Value.pointer (some (Addr.add a213 (Int.toNat i212 * (24 : Nat)))) = Value.pointer (some (Addr.add a213 (Int.toNat i212 * (24 : Nat)))) ∧ w217 = w217) ∧ rd (World.cell? (World.drew w180) (Addr.add a213 (Int.toNat i212 * (24 : Nat)))) fun v219 => (∀ (w220 : World), u187 w220 → rd (World.cell? w220 (Addr.add a213 (Int.toNat i212 * (24 : Nat)))) fun v222 => v222 = v219 ∧ w220 = w220) ∧ isK IntKind.i64 v219 fun i223 => runs Tryz.prog (Instr.buildSlice (104 : Nat) (1 : Nat) #[((0 : Nat), Value.int IntKind.i64 i223)]) (World.drew w180) fun v224 w225 => isSl v224 fun o226 n227 n228 => u187 w225 ∧ runs Tryz.prog (Builtin.append_ #[(104 : Nat), (104 : Nat)] (104 : Nat) #[Value.slice o194 n195 n196, Value.slice o226 n227 n228]) w225 fun v229 w230 => isSl v229 fun o231 n232 n233 => u187 w230 ∧ stC w230 { block := n103, off := (2 : Nat) : Addr } [Value.slice o231 n232 n233] fun w234 => isK IntKind.i64 (u109 (12 : Nat)) fun i235 => again u107 u108 (alist [((9 : Nat), Value.string x183), ((12 : Nat), Value.int IntKind.i64 (IntKind.wrap IntKind.i64 (i235 + (1 : Int))))]) w234 (alist [((9 : Nat), u109 (9 : Nat)), ((12 : Nat), u109 (12 : Nat))]) w110)) ∧ runs Tryz.prog (Instr.buildSlice (45 : Nat) (1 : Nat) #[((0 : Nat), Value.agg (List.toArray l151))]) w156 fun v236 w237 => isSl v236 fun o238 n239 n240 => u117 w237 ∧ runs Tryz.prog (Builtin.append_ #[(45 : Nat), (45 : Nat)] (45 : Nat) #[Value.slice o157 n158 n159, Value.slice o126 n127 n128]) w237 fun v241 w242 => isSl v241 fun o243 n244 n245 => u117 w242 ∧ runs Tryz.prog (Builtin.append_ #[(45 : Nat), (45 : Nat)] (45 : Nat) #[Value.slice o243 n244 n245, Value.slice o238 n239 n240]) w242 fun v246 w247 => isSl v246 fun o248 n249 n250 => u117 w247 ∧ isPtr (u67 (8 : Nat)) fun a251 => stC w247 (Addr.add a251 (4 : Nat)) [Value.slice o248 n249 n250] fun w252 => isPtr (u67 (8 : Nat)) fun a253 => rd (cellsAt w252 a253 (5 : Nat)) fun l254 => callV Tryz.prog (29 : Nat) [Value.agg (List.toArray l254)] w252 fun v255 w256 => isTup v255 fun l257 => rd l257[(0 : Nat)]? fun v258 => isStr v258 fun x259 => isTup v255 fun l260 => rd l260[(1 : Nat)]? fun v261 => isK IntKind.i64 v261 fun i262 => br (!decide (i262 = (0 : Int))) (u106 (alist [((9 : Nat), u109 (9 : Nat))]) w256) (heldC (World.drew w256) fun u263 => (∀ (w264 : World), u263 w264 → Value.pointer (some { block := n103, off := (2 : Nat) : Addr }) = Value.pointer (some { block := n103, off := (2 : Nat) : Addr }) ∧ w264 = w264) ∧ rd (World.cell? (World.drew w256) { block := n103, off := (2 : Nat) : Addr }) fun v266 => (∀ (w267 : World), u263 w267 → rd (World.cell? w267 { block := n103, off := (2 : Nat) : Addr }) fun v269 => v269 = v266 ∧ w267 = w267) ∧ isSl v266 fun o270 n271 n272 => (∀ (w273 : World), u263 w273 → Value.pointer (some a) = Value.pointer (some a) ∧ w273 = w273) ∧ (∀ (w275 : World), u263 w275 → Value.pointer (some a) = Value.pointer (some a) ∧ w275 = w275) ∧ (∀ (w277 : World), u263 w277 → Value.pointer (some (Addr.add a (2 : Nat))) = Value.pointer (some (Addr.add a (2 : Nat))) ∧ w277 = w277) ∧ rd (World.cell? (World.drew w256) (Addr.add a (2 : Nat))) fun v279 => (∀ (w280 : World), u263 w280 → rd (World.cell? w280 (Addr.add a (2 : Nat))) fun v282 => v282 = v279 ∧ w280 = w280) ∧ isSl v279 fun o283 n284 n285 => (∀ (w286 : World), u263 w286 → u109 (12 : Nat) = u109 (12 : Nat) ∧ w286 = w286) ∧ isK IntKind.i64 (u109 (12 : Nat)) fun i288 => rd o283 fun a289 => ((0 : Int) ≤ i288 ∧ i288 < (↑n284 : Int)) ∧ (∀ (w290 : World), u263 w290 → rd o283 fun a292 => ((0 : Int) ≤ i288 ∧ i288 < (↑n284 : Int)) ∧ Value.pointer (some (Addr.add a292 (Int.toNat i288 * (24 : Nat)))) = Value.pointer (some (Addr.add a289 (Int.toNat i288 * (24 : Nat)))) ∧ w290 = w290) ∧ (∀ (w293 : World), u263 w293 → Value.pointer (some (Addr.add a289 (Int.toNat i288 * (24 : Nat)))) = Value.pointer (some (Addr.add a289 (Int.toNat i288 * (24 : Nat)))) ∧ w293 = w293) ∧ rd (World.cell? (World.drew w256) (Addr.add a289 (Int.toNat i288 * (24 : Nat)))) fun v295 => (∀ (w296 : World), u263 w296 → rd (World.cell? w296 (Addr.add a289 (Int.toNat i288 * (24 : Nat)))) fun v298 => v298 = v295 ∧ w296 = w296) ∧ isK IntKind.i64 v295 fun i299 => runs Tryz.prog (Instr.buildSlice (104 : Nat) (1 : Nat) #[((0 : Nat), Value.int IntKind.i64 i299)]) (World.drew w256) fun v300 w301 => isSl v300 fun o302 n303 n304 => u263 w301 ∧ runs Tryz.prog (Builtin.append_ #[(104 : Nat), (104 : Nat)] (104 : Nat) #[Value.slice o270 n271 n272, Value.slice o302 n303 n304]) w301 fun v305 w306 => isSl v305 fun o307 n308 n309 => u263 w306 ∧ stC w306 { block := n103, off := (2 : Nat) : Addr } [Value.slice o307 n308 n309] fun w310 => isK IntKind.i64 (u109 (12 : Nat)) fun i311 => again u107 u108 (alist [((9 : Nat), Value.string x259), ((12 : Nat), Value.int IntKind.i64 (IntKind.wrap IntKind.i64 (i311 + (1 : Int))))]) w310 (alist [((9 : Nat), u109 (9 : Nat)), ((12 : Nat), u109 (12 : Nat))]) w110)) ∧ runs Tryz.prog (Instr.buildSlice (45 : Nat) (1 : Nat) #[((0 : Nat), Value.agg (List.toArray l151))]) (World.drew w110) fun v312 w313 => isSl v312 fun o314 n315 n316 => u117 w313 ∧ runs Tryz.prog (Instr.buildSlice (45 : Nat) (0 : Nat) #[]) w313 fun v317 w318 => isSl v317 fun o319 n320 n321 => u117 w318 ∧ runs Tryz.prog (Builtin.append_ #[(45 : Nat), (45 : Nat)] (45 : Nat) #[Value.slice o319 n320 n321, Value.slice o126 n127 n128]) w318 fun v322 w323 => isSl v322 fun o324 n325 n326 => u117 w323 ∧ runs Tryz.prog (Builtin.append_ #[(45 : Nat), (45 : Nat)] (45 : Nat) #[Value.slice o324 n325 n326, Value.slice o314 n315 n316]) w323 fun v327 w328 => isSl v327 fun o329 n330 n331 => u117 w328 ∧ isPtr (u67 (8 : Nat)) fun a332 => stC w328 (Addr.add a332 (4 : Nat)) [Value.slice o329 n330 n331] fun w333 => isPtr (u67 (8 : Nat)) fun a334 => rd (cellsAt w333 a334 (5 : Nat)) fun l335 => callV Tryz.prog (29 : Nat) [Value.agg (List.toArray l335)] w333 fun v336 w337 => isTup v336 fun l338 => rd l338[(0 : Nat)]? fun v339 => isStr v339 fun x340 => isTup v336 fun l341 => rd l341[(1 : Nat)]? fun v342 => isK IntKind.i64 v342 fun i343 => br (!decide (i343 = (0 : Int))) (u106 (alist [((9 : Nat), u109 (9 : Nat))]) w337) (heldC (World.drew w337) fun u344 => (∀ (w345 : World), u344 w345 → Value.pointer (some { block := n103, off := (2 : Nat) : Addr }) = Value.pointer (some { block := n103, off := (2 : Nat) : Addr }) ∧ w345 = w345) ∧ rd (World.cell? (World.drew w337) { block := n103, off := (2 : Nat) : Addr }) fun v347 => (∀ (w348 : World), u344 w348 → rd (World.cell? w348 { block := n103, off := (2 : Nat) : Addr }) fun v350 => v350 = v347 ∧ w348 = w348) ∧ isSl v347 fun o351 n352 n353 => (∀ (w354 : World), u344 w354 → Value.pointer (some a) = Value.pointer (some a) ∧ w354 = w354) ∧ (∀ (w356 : World), u344 w356 → Value.pointer (some a) = Value.pointer (some a) ∧ w356 = w356) ∧ (∀ (w358 : World), u344 w358 → Value.pointer (some (Addr.add a (2 : Nat))) = Value.pointer (some (Addr.add a (2 : Nat))) ∧ w358 = w358) ∧ rd (World.cell? (World.drew w337) (Addr.add a (2 : Nat))) fun v360 => (∀ (w361 : World), u344 w361 → rd (World.cell? w361 (Addr.add a (2 : Nat))) fun v363 => v363 = v360 ∧ w361 = w361) ∧ isSl v360 fun o364 n365 n366 => (∀ (w367 : World), u344 w367 → u109 (12 : Nat) = u109 (12 : Nat) ∧ w367 = w367) ∧ isK IntKind.i64 (u109 (12 : Nat)) fun i369 => rd o364 fun a370 => ((0 : Int) ≤ i369 ∧ i369 < (↑n365 : Int)) ∧ (∀ (w371 : World), u344 w371 → rd o364 fun a373 => ((0 : Int) ≤ i369 ∧ i369 < (↑n365 : Int)) ∧ Value.pointer (some (Addr.add a373 (Int.toNat i369 * (24 : Nat)))) = Value.pointer (some (Addr.add a370 (Int.toNat i369 * (24 : Nat)))) ∧ w371 = w371) ∧ (∀ (w374 : World), u344 w374 → Value.pointer (some (Addr.add a370 (Int.toNat i369 * (24 : Nat)))) = Value.pointer (some (Addr.add a370 (Int.toNat i369 * (24 : Nat)))) ∧ w374 = w374) ∧ rd (World.cell? (World.drew w337) (Addr.add a370 (Int.toNat i369 * (24 : Nat)))) fun v376 => (∀ (w377 : World), u344 w377 → rd (World.cell? w377 (Addr.add a370 (Int.toNat i369 * (24 : Nat)))) fun v379 => v379 = v376 ∧ w377 = w377) ∧ isK IntKind.i64 v376 fun i380 => runs Tryz.prog (Instr.buildSlice (104 : Nat) (1 : Nat) #[((0 : Nat), Value.int IntKind.i64 i380)]) (World.drew w337) fun v381 w382 => isSl v381 fun o383 n384 n385 => u344 w382 ∧ runs Tryz.prog (Builtin.append_ #[(104 : Nat), (104 : Nat)] (104 : Nat) #[Value.slice o351 n352 n353, Value.slice o383 n384 n385]) w382 fun v386 w387 => isSl v386 fun o388 n389 n390 => u344 w387 ∧ stC w387 { block := n103, off := (2 : Nat) : Addr } [Value.slice o388 n389 n390] fun w391 => isK IntKind.i64 (u109 (12 : Nat)) fun i392 => again u107 u108 (alist [((9 : Nat), Value.string x340), ((12 : Nat), Value.int IntKind.i64 (IntKind.wrap IntKind.i64 (i392 + (1 : Int))))]) w391 (alist [((9 : Nat), u109 (9 : Nat)), ((12 : Nat), u109 (12 : Nat))]) w110)) (u106 (alist [((9 : Nat), u109 (9 : Nat))]) w110)) fun u393 => ∀ (u394 : Nat → Value) (w395 : World), u393 (alist [((9 : Nat), u394 (9 : Nat))]) w395 → cutC (fun u397 => heldC (World.drew w395) fun u398 => (∀ (w399 : World), u398 w399 → Value.pointer (some a) = Value.pointer (some a) ∧ w399 = w399) ∧ (∀ (w401 : World), u398 w401 → Value.pointer (some a) = Value.pointer (some a) ∧ w401 = w401) ∧ (∀ (w403 : World), u398 w403 → Value.pointer (some a) = Value.pointer (some a) ∧ w403 = w403) ∧ (∀ (w405 : World), u398 w405 → Value.pointer (some (Addr.add a (3 : Nat))) = Value.pointer (some (Addr.add a (3 : Nat))) ∧ w405 = w405) ∧ rd (World.cell? (World.drew w395) (Addr.add a (3 : Nat))) fun v407 => (∀ (w408 : World), u398 w408 → rd (World.cell? w408 (Addr.add a (3 : Nat))) fun v410 => v410 = v407 ∧ w408 = w408) ∧ isSl v407 fun o411 n412 n413 => rd (cellsAt (World.drew w395) { block := n103, off := (0 : Nat) : Addr } (3 : Nat)) fun l414 => (∀ (w415 : World), u398 w415 → rd (cellsAt w415 { block := n103, off := (0 : Nat) : Addr } (3 : Nat)) fun l417 => Value.agg (List.toArray l417) = Value.agg (List.toArray l414) ∧ w415 = w415) ∧ runs Tryz.prog (Instr.buildSlice (60 : Nat) (1 : Nat) #[((0 : Nat), Value.agg (List.toArray l414))]) (World.drew w395) fun v418 w419 => isSl v418 fun o420 n421 n422 => u398 w419 ∧ runs Tryz.prog (Builtin.append_ #[(60 : Nat), (60 : Nat)] (60 : Nat) #[Value.slice o411 n412 n413, Value.slice o420 n421 n422]) w419 fun v423 w424 => isSl v423 fun o425 n426 n427 => u398 w424 ∧ stC w424 (Addr.add a (3 : Nat)) [Value.slice o425 n426 n427] fun w428 => u397 (alist []) w428) fun u429 => ∀ (u430 : Nat → Value) (w431 : World), u429 (alist []) w431 → cutC (fun u433 => rd (World.cell? w431 (Addr.add a (3 : Nat))) fun v434 => isSl v434 fun o435 n436 n437 => br (decide ((64 : Int) < (↑n436 : Int))) (runs Tryz.prog (Instr.buildSlice (60 : Nat) (0 : Nat) #[]) w431 fun v438 w439 => isSl v438 fun o440 n441 n442 => rd (World.cell? w439 (Addr.add a (3 : Nat))) fun v443 => isSl v443 fun o444 n445 n446 => runs Tryz.prog (Instr.sliceAt (60 : Nat) (Value.slice o444 n445 n446) (some (Value.int IntKind.i64 (1 : Int))) none none) w439 fun v447 w448 => isSl v447 fun o449 n450 n451 => runs Tryz.prog (Builtin.append_ #[(60 : Nat), (60 : Nat)] (60 : Nat) #[Value.slice o440 n441 n442, Value.slice o449 n450 n451]) w448 fun v452 w453 => isSl v452 fun o454 n455 n456 => stC w453 (Addr.add a (3 : Nat)) [Value.slice o454 n455 n456] fun w457 => u433 (alist []) w457) (u433 (alist []) w431)) fun u458 => ∀ (u459 : Nat → Value) (w460 : World), u458 (alist []) w460 → rd (World.cell? w460 a) fun v462 => isK IntKind.u16 v462 fun i463 => stC w460 a [Value.int IntKind.u16 (IntKind.wrap IntKind.u16 (i463 + (1 : Int)))] fun w464 => isStr (u394 (9 : Nat)) fun x465 => R (Value.tuple #[Value.string x465, Value.int IntKind.i64 (0 : Int)]) w464)) :
 callV Tryz.prog 11 [Value.pointer (some a), Value.slice bp bn bc, Value.int IntKind.u32 c] w R :=
 vc_of hm ⟨fun n => match n with | 2 => true | 4 => true | 16 => true | 17 => true | 19 => true | _ => false, fun n => match n with | 1 => .take 0 (.take 1 (.take 2 (.take 3 (.take 4 (.take 5 (.take 6 (.take 7 (.take 9 (.two 8 (.two 10 (.take 11 (.one 12 (.last 13 (.done)))) 12 (.one 10 (.take 11 (.last 13 (.done))))) 12 (.one 8 (.one 10 (.take 11 (.last 13 (.done)))))))))))))) | 11 => .take 1 (.take 2 (.take 4 (.take 5 (.take 6 (.take 7 (.take 8 (.take 9 (.take 10 (.take 11 (.two 0 (.two 3 (.one 12 (.one 13 (.last 14 (.last 15 (.done))))) 12 (.one 3 (.one 13 (.last 14 (.last 15 (.done)))))) 12 (.one 0 (.one 3 (.one 13 (.last 14 (.last 15 (.done)))))))))))))))) | 15 => .take 0 (.take 1 (.take 2 (.take 3 (.take 4 (.take 5 (.take 6 (.take 7 (.take 8 (.take 9 (.one 10 (.one 11 (.last 12 (.last 13 (.done)))))))))))))) | 16 => .take 0 (.take 1 (.take 2 (.take 3 (.take 4 (.take 5 (.one 6 (.one 7 (.last 8 (.last 9 (.last 10 (.done))))))))))) | _ => .done, fun n => match n with | 2 => [8] | 4 => [] | 16 => [9] | 9 => [9, 12] | 17 => [] | 19 => [] | _ => []⟩ Tryz.func11 ent11 (by kernel_rfl) h
theorem vc13 (a : Addr) (b : ByteArray) (c : Int) (w : World) (R : Value → World → Prop)
 (h : callV Tryz.prog (38 : Nat) [Value.string b] w fun v0 w1 => isTup v0 fun l2 => rd l2[(0 : Nat)]? fun v3 => isTup v0 fun l4 => rd l4[(1 : Nat)]? fun v5 => isK IntKind.i64 v5 fun i6 => allocC w1 (Obj.cells #[Value.int IntKind.u16 (0 : Int), Value.bool false, Value.int IntKind.u16 (0 : Int), Value.int IntKind.u32 (0 : Int), Value.slice none (0 : Nat) (0 : Nat)] (102 : Nat)) fun n7 w8 => rd (gd (List.length (Array.toList (Value.cells v3)) == (5 : Nat))) fun _x => stC w8 { block := n7, off := (0 : Nat) : Addr } (cellsOf true v3) fun w9 => br (!decide (i6 = (0 : Int))) (R (Value.tuple #[Value.slice none (0 : Nat) (0 : Nat), Value.int IntKind.i64 i6]) w9) (heldC (World.drew w9) fun u10 => (∀ (w11 : World), u10 w11 → Value.pointer (some a) = Value.pointer (some a) ∧ w11 = w11) ∧ (∀ (w13 : World), u10 w13 → Value.pointer (some a) = Value.pointer (some a) ∧ w13 = w13) ∧ (∀ (w15 : World), u10 w15 → Value.pointer (some (Addr.add a (4 : Nat))) = Value.pointer (some (Addr.add a (4 : Nat))) ∧ w15 = w15) ∧ rd (World.cell? (World.drew w9) (Addr.add a (4 : Nat))) fun v17 => (∀ (w18 : World), u10 w18 → rd (World.cell? w18 (Addr.add a (4 : Nat))) fun v20 => v20 = v17 ∧ w18 = w18) ∧ isP v17 fun o21 => (∀ (w22 : World), u10 w22 → Value.pointer (some { block := n7, off := (0 : Nat) : Addr }) = Value.pointer (some { block := n7, off := (0 : Nat) : Addr }) ∧ w22 = w22) ∧ rd (World.cell? (World.drew w9) { block := n7, off := (0 : Nat) : Addr }) fun v24 => (∀ (w25 : World), u10 w25 → rd (World.cell? w25 { block := n7, off := (0 : Nat) : Addr }) fun v27 => v27 = v24 ∧ w25 = w25) ∧ isK IntKind.u16 v24 fun i28 => callV Tryz.prog (39 : Nat) [Value.pointer o21, Value.int IntKind.u16 i28] (World.drew w9) fun v29 w30 => isB v29 fun t31 => u10 w30 ∧ (∀ (w32 : World), u10 w32 → (Value.bool !t31) = Value.bool !t31 ∧ w32 = w32) ∧ br (!t31) (R (Value.tuple #[Value.slice none (0 : Nat) (0 : Nat), Value.int IntKind.i64 (7 : Int)]) w30) (stC w30 (Addr.add a (5 : Nat)) [Value.bool true] fun w34 => stC w34 (Addr.add a (8 : Nat)) [Value.int IntKind.u32 c] fun w35 => cutC (fun u36 => loopC (alist [((10 : Nat), Value.slice none (0 : Nat) (0 : Nat)), ((11 : Nat), Value.int IntKind.i64 (0 : Int))]) w35 fun u37 u38 => ∀ (u39 : Nat → Value) (w40 : World), u37 (alist [((10 : Nat), u39 (10 : Nat)), ((11 : Nat), u39 (11 : Nat))]) w40 → isK IntKind.i64 (u39 (11 : Nat)) fun i42 => rd (World.cell? w40 (Addr.add a (3 : Nat))) fun v43 => isSl v43 fun o44 n45 n46 => br (decide (i42 < (↑n45 : Int))) (cutC (fun u47 => rd (World.cell? w40 (Addr.add a (3 : Nat))) fun v48 => isSl v48 fun o49 n50 n51 => isK IntKind.i64 (u39 (11 : Nat)) fun i52 => rd o49 fun a53 => ((0 : Int) ≤ i52 ∧ i52 < (↑n50 : Int)) ∧ rd (cellsAt w40 (Addr.add a53 (Int.toNat i52 * (3 : Nat))) (3 : Nat)) fun l54 => allocC w40 (Obj.cells #[Value.int IntKind.u16 (0 : Int), Value.int IntKind.u32 (0 : Int), Value.slice none (0 : Nat) (0 : Nat)] (106 : Nat)) fun n55 w56 => rd (gd (List.length l54 == (3 : Nat))) fun _x => stC w56 { block := n55, off := (0 : Nat) : Addr } l54 fun w57 => rd (World.cell? w57 { block := n7, off := (2 : Nat) : Addr }) fun v58 => isK IntKind.u16 v58 fun i59 => rd (World.cell? w57 { block := n7, off := (3 : Nat) : Addr }) fun v60 => isK IntKind.u32 v60 fun i61 => rd (World.cell? w57 { block := n55, off := (0 : Nat) : Addr }) fun v62 => isK IntKind.u16 v62 fun i63 => callV Tryz.prog (40 : Nat) [Value.int IntKind.u16 i59, Value.int IntKind.u32 i61, Value.int IntKind.u16 i63] w57 fun v64 w65 => isB v64 fun t66 => rd (World.cell? w65 { block := n7, off := (1 : Nat) : Addr }) fun v67 => isB v67 fun t68 => br (!t68) (isSl (u39 (10 : Nat)) fun o69 n70 n71 => rd (cellsAt w65 { block := n55, off := (0 : Nat) : Addr } (3 : Nat)) fun l72 => runs Tryz.prog (Instr.buildSlice (60 : Nat) (1 : Nat) #[((0 : Nat), Value.agg (List.toArray l72))]) w65 fun v73 w74 => isSl v73 fun o75 n76 n77 => runs Tryz.prog (Builtin.append_ #[(60 : Nat), (60 : Nat)] (60 : Nat) #[Value.slice o69 n70 n71, Value.slice o75 n76 n77]) w74 fun v78 w79 => isSl v78 fun o80 n81 n82 => u47 (alist [((10 : Nat), Value.slice o80 n81 n82)]) w79) (br (!t66) (isSl (u39 (10 : Nat)) fun o83 n84 n85 => rd (cellsAt w65 { block := n55, off := (0 : Nat) : Addr } (3 : Nat)) fun l86 => runs Tryz.prog (Instr.buildSlice (60 : Nat) (1 : Nat) #[((0 : Nat), Value.agg (List.toArray l86))]) w65 fun v87 w88 => isSl v87 fun o89 n90 n91 => runs Tryz.prog (Builtin.append_ #[(60 : Nat), (60 : Nat)] (60 : Nat) #[Value.slice o83 n84 n85, Value.slice o89 n90 n91]) w88 fun v92 w93 => isSl v92 fun o94 n95 n96 => u47 (alist [((10 : Nat), Value.slice o94 n95 n96)]) w93) (cutC (fun u97 => rd (World.cell? w65 { block := n55, off := (1 : Nat) : Addr }) fun v98 => isK IntKind.u32 v98 fun i99 => br (decide (i99 < c)) (rd (World.cell? w65 { block := n55, off := (1 : Nat) : Addr }) fun v100 => isK IntKind.u32 v100 fun i101 => u97 (alist [((14 : Nat), Value.int IntKind.i64 (IntKind.wrap IntKind.i64 (min (IntKind.wrap IntKind.u32 (c - i101)) (1000 : Int))))]) w65) (u97 (alist [((14 : Nat), Value.int IntKind.i64 (0 : Int))]) w65)) fun u102 => ∀ (u103 : Nat → Value) (w104 : World), u102 (alist [((14 : Nat), u103 (14 : Nat))]) w104 → cutC (fun u106 => rd (World.cell? w104 (Addr.add a (7 : Nat))) fun v107 => isB v107 fun t108 => br t108 (rd (World.cell? w104 (Addr.add a (6 : Nat))) fun v109 => isK IntKind.i64 v109 fun i110 => isK IntKind.i64 (u103 (14 : Nat)) fun i111 => u106 (alist [((14 : Nat), Value.int IntKind.i64 (IntKind.wrap IntKind.i64 (Int.tdiv (IntKind.wrap IntKind.i64 (IntKind.wrap IntKind.i64 (IntKind.wrap IntKind.i64 ((7 : Int) * i110) + i111) + (4 : Int))) (8 : Int))))]) w104) (u106 (alist [((14 : Nat), u103 (14 : Nat))]) w104)) fun u112 => ∀ (u113 : Nat → Value) (w114 : World), u112 (alist [((14 : Nat), u113 (14 : Nat))]) w114 → stC w114 (Addr.add a (7 : Nat)) [Value.bool true] fun w116 => isK IntKind.i64 (u113 (14 : Nat)) fun i117 => stC w116 (Addr.add a (6 : Nat)) [Value.int IntKind.i64 i117] fun w118 => cutC (fun u119 => loopC (alist [((15 : Nat), Value.slice none (0 : Nat) (0 : Nat)), ((16 : Nat), Value.int IntKind.i64 (0 : Int))]) w118 fun u120 u121 => ∀ (u122 : Nat → Value) (w123 : World), u120 (alist [((15 : Nat), u122 (15 : Nat)), ((16 : Nat), u122 (16 : Nat))]) w123 → isK IntKind.i64 (u122 (16 : Nat)) fun i125 => rd (World.cell? w123 (Addr.add a (2 : Nat))) fun v126 => isSl v126 fun o127 n128 n129 => br (decide (i125 < (↑n128 : Int))) (cutC (fun u130 => heldC (World.drew w123) fun u131 => (∀ (w132 : World), u131 w132 → Value.pointer (some { block := n55, off := (2 : Nat) : Addr }) = Value.pointer (some { block := n55, off := (2 : Nat) : Addr }) ∧ w132 = w132) ∧ rd (World.cell? (World.drew w123) { block := n55, off := (2 : Nat) : Addr }) fun v134 => (∀ (w135 : World), u131 w135 → rd (World.cell? w135 { block := n55, off := (2 : Nat) : Addr }) fun v137 => v137 = v134 ∧ w135 = w135) ∧ isSl v134 fun o138 n139 n140 => (∀ (w141 : World), u131 w141 → Value.pointer (some a) = Value.pointer (some a) ∧ w141 = w141) ∧ (∀ (w143 : World), u131 w143 → Value.pointer (some a) = Value.pointer (some a) ∧ w143 = w143) ∧ (∀ (w145 : World), u131 w145 → Value.pointer (some (Addr.add a (2 : Nat))) = Value.pointer (some (Addr.add a (2 : Nat))) ∧ w145 = w145) ∧ rd (World.cell? (World.drew w123) (Addr.add a (2 : Nat))) fun v147 => (∀ (w148 : World), u131 w148 → rd (World.cell? w148 (Addr.add a (2 : Nat))) fun v150 => v150 = v147 ∧ w148 = w148) ∧ isSl v147 fun o151 n152 n153 => (∀ (w154 : World), u131 w154 → u122 (16 : Nat) = u122 (16 : Nat) ∧ w154 = w154) ∧ isK IntKind.i64 (u122 (16 : Nat)) fun i156 => rd o151 fun a157 => ((0 : Int) ≤ i156 ∧ i156 < (↑n152 : Int)) ∧ (∀ (w158 : World), u131 w158 → rd o151 fun a160 => ((0 : Int) ≤ i156 ∧ i156 < (↑n152 : Int)) ∧ Value.pointer (some (Addr.add a160 (Int.toNat i156 * (24 : Nat)))) = Value.pointer (some (Addr.add a157 (Int.toNat i156 * (24 : Nat)))) ∧ w158 = w158) ∧ (∀ (w161 : World), u131 w161 → Value.pointer (some (Addr.add a157 (Int.toNat i156 * (24 : Nat)))) = Value.pointer (some (Addr.add a157 (Int.toNat i156 * (24 : Nat)))) ∧ w161 = w161) ∧ rd (World.cell? (World.drew w123) (Addr.add a157 (Int.toNat i156 * (24 : Nat)))) fun v163 => (∀ (w164 : World), u131 w164 → rd (World.cell? w164 (Addr.add a157 (Int.toNat i156 * (24 : Nat)))) fun v166 => v166 = v163 ∧ w164 = w164) ∧ isK IntKind.i64 v163 fun i167 => callV Tryz.prog (41 : Nat) [Value.slice o138 n139 n140, Value.int IntKind.i64 i167] (World.drew w123) fun v168 w169 => isB v168 fun t170 => u131 w169 ∧ (∀ (w171 : World), u131 w171 → (Value.bool !t170) = Value.bool !t170 ∧ w171 = w171) ∧ br (!t170) (isSl (u122 (15 : Nat)) fun o173 n174 n175 => rd (World.cell? w169 (Addr.add a (2 : Nat))) fun v176 => isSl v176 fun o177 n178 n179 => isK IntKind.i64 (u122 (16 : Nat)) fun i180 => rd o177 fun a181 => ((0 : Int) ≤ i180 ∧ i180 < (↑n178 : Int)) ∧ rd (cellsAt w169 (Addr.add a181 (Int.toNat i180 * (24 : Nat))) (24 : Nat)) fun l182 => runs Tryz.prog (Instr.buildSlice (59 : Nat) (1 : Nat) #[((0 : Nat), Value.agg (List.toArray l182))]) w169 fun v183 w184 => isSl v183 fun o185 n186 n187 => runs Tryz.prog (Builtin.append_ #[(59 : Nat), (59 : Nat)] (59 : Nat) #[Value.slice o173 n174 n175, Value.slice o185 n186 n187]) w184 fun v188 w189 => isSl v188 fun o190 n191 n192 => u130 (alist [((15 : Nat), Value.slice o190 n191 n192)]) w189) (u130 (alist [((15 : Nat), u122 (15 : Nat))]) w169)) fun u193 => ∀ (u194 : Nat → Value) (w195 : World), u193 (alist [((15 : Nat), u194 (15 : Nat))]) w195 → isK IntKind.i64 (u122 (16 : Nat)) fun i197 => again u120 u121 (alist [((15 : Nat), u194 (15 : Nat)), ((16 : Nat), Value.int IntKind.i64 (IntKind.wrap IntKind.i64 (i197 + (1 : Int))))]) w195 (alist [((15 : Nat), u122 (15 : Nat)), ((16 : Nat), u122 (16 : Nat))]) w123) (u119 (alist [((15 : Nat), u122 (15 : Nat))]) w123)) fun u198 => ∀ (u199 : Nat → Value) (w200 : World), u198 (alist [((15 : Nat), u199 (15 : Nat))]) w200 → isSl (u199 (15 : Nat)) fun o202 n203 n204 => stC w200 (Addr.add a (2 : Nat)) [Value.slice o202 n203 n204] fun w205 => u47 (alist [((10 : Nat), u39 (10 : Nat))]) w205))) fun u206 => ∀ (u207 : Nat → Value) (w208 : World), u206 (alist [((10 : Nat), u207 (10 : Nat))]) w208 → isK IntKind.i64 (u39 (11 : Nat)) fun i210 => again u37 u38 (alist [((10 : Nat), u207 (10 : Nat)), ((11 : Nat), Value.int IntKind.i64 (IntKind.wrap IntKind.i64 (i210 + (1 : Int))))]) w208 (alist [((10 : Nat), u39 (10 : Nat)), ((11 : Nat), u39 (11 : Nat))]) w40) (u36 (alist [((10 : Nat), u39 (10 : Nat))]) w40)) fun u211 => ∀ (u212 : Nat → Value) (w213 : World), u211 (alist [((10 : Nat), u212 (10 : Nat))]) w213 → isSl (u212 (10 : Nat)) fun o215 n216 n217 => stC w213 (Addr.add a (3 : Nat)) [Value.slice o215 n216 n217] fun w218 => rd (World.cell? w218 { block := n7, off := (4 : Nat) : Addr }) fun v219 => isSl v219 fun o220 n221 n222 => R (Value.tuple #[Value.slice o220 n221 n222, Value.int IntKind.i64 (0 : Int)]) w218))) :
 callV Tryz.prog 13 [Value.pointer (some a), Value.string b, Value.int IntKind.u32 c] w R :=
 vc_of hm ⟨fun n => match n with | 19 => true | 21 => true | 26 => true | 29 => true | 11 => true | 30 => true | _ => false, fun n => match n with | 4 => .take 0 (.take 1 (.take 2 (.take 3 (.take 4 (.take 5 (.one 6 (.take 7 (.done)))))))) | 27 => .take 0 (.take 1 (.take 2 (.take 3 (.take 4 (.take 5 (.take 6 (.take 7 (.take 8 (.take 9 (.one 10 (.take 11 (.done)))))))))))) | _ => .done, fun n => match n with | 30 => [10] | 10 => [10, 11] | 11 => [10] | 19 => [14] | 21 => [14] | 29 => [15] | 25 => [15, 16] | 26 => [15] | _ => []⟩ Tryz.func13 ent13 (by kernel_rfl) h
end Go.Proofs.YtipikchkbmgloaaGreatDoor
namespace Go.Proofs.YtipikchkbmgloaaGreatDoor
set_option linter.unusedSimpArgs false
set_option linter.unusedVariables false
open Go Go.RowKit VC
variable {w : World}
theorem own_cellsAt {α : Type} {enc : α → List Value} {k base t : Nat} {v : Value} {xs : List α} {j : Nat} {x : α} (hk : ∀ x, (enc x).length = k) (h : w.ownsRow base t k v xs.length (xs.flatMap enc)) (hx : xs[j]? = some x) :
  ∃ g cp, v = .slice (some ⟨g, 0, none⟩) xs.length cp ∧ v.ownBlock = some g ∧ cellsAt w ⟨g, j * k, none⟩ k = some (enc x) := by
 have hne : xs ≠ [] := by rintro rfl; simp at hx
 have hj : j < xs.length := (List.getElem?_eq_some_iff.1 hx).1
 obtain ⟨g, cap, C, rfl, -, hrow, -, -, -⟩ := own_rowIn hk h hne
 exact ⟨g, cap, rfl, rfl, hrow.read (Nat.zero_le _) hj hx⟩
theorem cells_head {a : Addr} {n : Nat} {v : Value} {l : List Value} (h : cellsAt w a n = some (v :: l)) : w.cell? (a.add 0) = some v := (cellsAt_length h).2 0 v rfl
def refI (d : Dg) (now : Nat) (c : Ch) (es : List Ent) : Ch :=
 { c with win := (accW c.win d.seq).2, heard := now, rtt := (es.foldl (stepE d now) (c.rtt, c.timed)).1, timed := (es.foldl (stepE d now) (c.rtt, c.timed)).2, wait := c.wait.filter fun x => !(es.any fun e => goneE d e && decide (x.1 ∈ e.ids)) }
def keptX (d : Dg) (es : List Ent) (x : (Nat × Msg) × (Option Addr × Nat)) : Bool := !(es.any fun e => goneE d e && decide (x.1.1 ∈ e.ids))
theorem keptX_skip {d : Dg} {es : List Ent} {e : Ent} (h : goneE d e = false) : keptX d (es ++ [e]) = keptX d es := by funext x; unfold keptX; simp [h]
theorem keptX_gone {d : Dg} {es : List Ent} {e : Ent} (h : goneE d e = true) (xs : List ((Nat × Msg) × (Option Addr × Nat))) : xs.filter (keptX d (es ++ [e])) = (xs.filter (keptX d es)).filter fun x => !decide (x.1.1 ∈ e.ids) := by
 rw [List.filter_filter]
 congr 1
 funext x
 unfold keptX
 simp [h, Bool.and_comm]
theorem refI_wait {d : Dg} {now : Nat} {c : Ch} {es : List Ent} {xs : List ((Nat × Msg) × (Option Addr × Nat))} (h : c.wait = xs.map (·.1)) : (refI d now c es).wait = (xs.filter (keptX d es)).map (·.1) := by
 show c.wait.filter _ = _
 rw [h, List.filter_map]; rfl
theorem stepE_rtt {d : Dg} {now : Nat} : ∀ {es : List Ent} {s : Nat × Bool}, s.1 ≤ 1000 → (es.foldl (stepE d now) s).1 ≤ 1000 := by
 intro es
 induction es with
 | nil => intro s h; exact h
 | cons e es ih => intro s h; exact ih (stepE_le h)
theorem accW_any {W : Win} {n : Nat} (h : (accW W n).1 = true) : (accW W n).2.any = true := by
 unfold accW at h ⊢
 split
 ·rfl
 ·rename_i h0; rw [if_neg h0] at h
  split
  ·rfl
  ·rename_i h2; rw [if_neg h2] at h
   split
   ·rename_i h3; rw [if_pos h3] at h; cases h
   ·rfl
theorem accW_no {W : Win} {n : Nat} (hacc : (accW W n).1 = false) : (accW W n).2 = W := by
 unfold accW at hacc ⊢
 split
 ·rename_i h; rw [if_pos h] at hacc; cases hacc
 ·rename_i h; rw [if_neg h] at hacc
  split
  ·rename_i h2; rw [if_pos h2] at hacc; cases hacc
  ·rename_i h2; rw [if_neg h2] at hacc
   split
   ·rfl
   ·rename_i h3; rw [if_neg h3] at hacc; cases hacc
theorem accR_near (V : RWin) (n : Nat) : (accR V n).2.near.length ≤ V.near.length + 1 := by
 unfold accR
 repeat' split
 all_goals first | exact Nat.le_succ _ | (rw [List.length_cons]; exact Nat.succ_le_succ (List.length_filter_le _ _))
section
variable {N A K : Nat} {F : Nat → Prop} {c : Ch}
set_option maxRecDepth 20000 in
set_option maxHeartbeats 4000000 in
theorem runpack13_c {bs : List Int} {now : Nat} (h : RfcAt w N F A K c) (hy : ∀ y ∈ bs, 0 ≤ y ∧ y < 256) (hl : bs.length ≤ 10000) (hnow : now < 4294967296) (hN : N ≤ w.heap.size) (hsl : c.sent.length ≤ 1000000) (hK : K ≤ 100000) :
  callV Tryz.prog 13 [.pointer (some ⟨A, 0, none⟩), .string (strOfNums bs), .int .u32 now] w fun v w' =>
   ∃ q e, v = .tuple #[.slice q (unpackC c bs now).1.1.length e, .int .i64 (unpackC c bs now).1.2] ∧ OwnMsgs w' w.heap.size (.slice q (unpackC c bs now).1.1.length e) (unpackC c bs now).1.1 ∧ RfcAt w' N (FNew F w w') A (K + 1) (unpackC c bs now).2 ∧ Fm F w w' := by
 have h0 := h
 obtain ⟨D, V, wv, sv, nv, xs, ys, hB, hW, hS, hwx, hsy⟩ := h
 have hyl : c.sent.length = ys.length := by rw [hsy, List.length_map]
 obtain ⟨d, hd⟩ : ∃ d, d = (decD bs).1 := ⟨_, rfl⟩
 have hdok := decD_ok hy
 refine vc13 ⟨A, 0, none⟩ (strOfNums bs) now w _ ?_
 refine (decode13_c hy hl).mono ?_
 rintro _ w1 ⟨q, cq, rfl, hown, hf1⟩
 simp only [vq, eqV, nilV, List.getElem?_toArray, List.getElem?_cons_zero, List.getElem?_cons_succ]
 refine allocC_of fun w8 hb8 hs8 hf8 => ?_
 obtain ⟨X, hX⟩ : ∃ X, X = w1.heap.size := ⟨_, rfl⟩
 rw [← hX] at hb8 ⊢
 refine rd_of (v := ()) rfl ?_
 have hcells : cellsOf true (dgC (decD bs).1 q cq) = [.int .u16 (decD bs).1.seq, .bool (decD bs).1.any, .int .u16 (decD bs).1.last, .int .u32 (decD bs).1.bits, .slice q (decD bs).1.list.length cq] := rfl
 rw [hcells]
 rw [← hd] at hown hdok ⊢
 refine stC_all hb8 rfl (fun v hv => by simp at hv; rcases hv with rfl | rfl | rfl | rfl | rfl <;> rfl) fun w9 hb9 hf9 => ?_
 have hXw : w.heap.size ≤ X := by rw [hX]; exact hf1.size
 have hF9 : Fm none' w w9 := (hf1.trans hf8).trans' hf9 fun i hi e => by omega
 have hown9 : OwnMsgs w9 w.heap.size (.slice q d.list.length cq) d.list := by
  refine hown.keep (hf8.none.trans hf9) ?_
  rintro i C t hi _ ht rfl
  have := lt_of_blk hi; omega
 have stay : ∀ w', Fm none' w w' → RfcAt w' N (FNew F w w') A (K + 1) c := fun w' hf =>
  ((h0.keep hf (fun _ _ => id) fun _ _ => id).more (by omega)).up (fun i h => .inl h) (fun i hi => hi.elim (fun h => Nat.lt_of_lt_of_le (hB.lt i h) hf.size) (·.2)) fun i hi => hi.elim (hB.hi i) fun h => by omega
 refine br_ndec (fun he => ?_) (fun he => ?_)
 ·have e : unpackC c bs now = (([], (decD bs).2), c) := by unfold unpackC; rw [if_pos he]
  rw [e]
  exact ⟨none, 0, rfl, OwnMsgs.nil _ _, stay w9 hF9, hF9.none⟩
 have hDw := hB.lt D hB.win.fD
 have hAw := hB.lt A hB.fA
 have hAD : A ≠ D := fun e => by have h1 := hB.box; have h2 := hB.win.box; rw [e, h2] at h1; cases h1
 have hbox9 := hF9.keep hB.box id
 have kD9 : w9.drew.cell? ⟨A, 4, none⟩ = some (.pointer (some ⟨D, 0, none⟩)) := cellOf (w := w9.drew) hbox9 rfl
 have kX9 : w9.drew.cell? ⟨X, 0, none⟩ = some (.int .u16 d.seq) := cellOf (w := w9.drew) hb9 rfl
 refine ⟨fun W => Fm (fun i => i = D) w9.drew W, Fm.refl _ _, ?_⟩
 simp only [addr_add, Nat.zero_add]
 refine rd_of kD9 ⟨fun W hf => rd_of (hf.cell kD9 hAD) rfl, ?_⟩
 simp only [vq, eqV, nilV]
 refine rd_of kX9 ⟨fun W hf => rd_of (hf.cell kX9 (by show ¬ X = D; omega)) rfl, ?_⟩
 simp only [vq, eqV, nilV]
 have hVr : ∀ x ∈ V.near, x < 65536 := hB.eq.rng
 have hVl : V.last < 65536 := by rw [hB.eq.last]; exact hB.eq.ok.last
 have hwin9 : RWinAt w9.drew F D V nv := (hB.win.keep hF9 (fun _ _ _ _ _ _ => id) fun _ => id).keep (Fm.drew w9) (fun _ _ _ _ _ _ => id) fun _ => id
 refine (accept39_c hwin9 hdok.seq hVl hVr (Nat.le_trans hB.few (by omega))).mono ?_
 rintro _ w30 ⟨rfl, ⟨nv', hwin30⟩, hf30⟩
 have hf30' : Fm (fun i => i = D) w9 w30 := (Fm.drew w9).none.trans hf30
 have hF30 : Fm (fun i => i = D) w w30 := hF9.none.trans hf30'
 obtain ⟨hacc, heq'⟩ := acc_eq hB.eq hdok.seq
 simp only [vq, eqV, nilV]
 refine ⟨hf30, ?_⟩
 rw [hacc]
 have hnoD : ∀ i C t, w.heap[i]? = some (.cells C t (0, 0)) → t ≠ 73 → ¬ i = D := by
  rintro i C t hi ht rfl
  rw [hB.win.box] at hi; cases hi; exact ht rfl
 have hND : ∀ i, i < N → ¬ i = D := fun i hi e => by have := hB.hi D hB.win.fD; omega
 have hbox30 := hF30.keep hB.box (hnoD _ _ _ hB.box (by decide))
 have hX30 := hf30'.keep hb9 (by show ¬ X = D; omega)
 have hsz30 := hF30.size
 have hsz9 := hF9.size
 have hsz9d : w9.drew.heap.size = w9.heap.size := rfl
 have hown30 : OwnMsgs w30 w.heap.size (.slice q d.list.length cq) d.list := hown9.keep hf30' fun i C t hi hb ht e => by omega
 have hW30 : RWt w30 N F wv xs := hW.keep hF30 (fun i C hi _ _ => hnoD i _ _ hi (by decide)) hND fun _ => id
 have hS30 : RSt w30 F sv ys := hS.keep hF30 (fun i C t hi _ ht => hnoD i _ _ hi (by rcases ht with ⟨rfl, _⟩ | rfl <;> decide)) fun _ => id
 have hFF : ∀ {W' : World}, w30.heap.size ≤ W'.heap.size → ∀ i, FNew F w9.drew w30 i → FNew F w W' i := fun hle i hi => hi.elim .inl fun h => .inr ⟨by omega, by omega⟩
 cases hac : (accW c.win d.seq).1 with
 | false =>
  simp only [Bool.not_false, vq, eqV, nilV]
  have e : unpackC c bs now = (([], 7), c) := by
   unfold unpackC
   rw [if_neg (by simpa using he), ← hd, if_pos hac]
  rw [e]
  refine ⟨none, 0, rfl, OwnMsgs.nil _ _, ⟨D, (accR V d.seq).2, wv, sv, nv', xs, ys, ⟨hbox30, .inl hB.fA, fun i hi => hi.elim (fun h => Nat.lt_of_lt_of_le (hB.lt i h) hF30.size) (·.2), fun i hi => hi.elim (hB.hi i) fun h => by omega, ⟨hwin30.box, hwin30.own, hFF (Nat.le_refl _) _ hwin30.fD, fun i hi => hFF (Nat.le_refl _) _ (hwin30.fn i hi)⟩, ?_, hB.next, hB.heard, hB.rtt, ?_, Nat.le_trans hB.pushed (by omega), hB.many⟩, hW30.up fun i hi => .inl hi, hS30.up fun i hi => .inl hi, hwx, hsy⟩, hF30.mono fun i _ e => e ▸ hB.win.fD⟩
  ·have h2 := heq'
   rw [accW_no hac] at h2
   exact h2
  ·exact Nat.le_trans (accR_near _ _) (by have := hB.few; omega)
 | true =>
  simp only [Bool.not_true, vq, eqV, nilV]
  have hany := accW_any hac
  refine stC_one hbox30 (by simp [refCs]) rfl fun w34 hb34 hf34 => ?_
  refine stC_one hb34 (by simp [refCs]) rfl fun w35 hb35 hf35 => ?_
  have hfA35 : Fm (fun i => i = A) w30 w35 := hf34.trans hf35
  have hF35 : Fm (fun i => i = A ∨ i = D) w w35 := (hF30.mono fun i _ e => .inr e).trans (hfA35.mono fun i _ e => .inl e)
  have hnoA30 : ∀ i C t, w30.heap[i]? = some (.cells C t (0, 0)) → t ≠ 63 → ¬ i = A := by
   rintro i C t hi ht rfl
   rw [hbox30] at hi; cases hi; exact ht rfl
  have hNA : ∀ i, i < N → ¬ i = A := fun i hi e => by have := hB.hi A hB.fA; omega
  obtain ⟨Fn, hFn⟩ : ∃ Fn : Nat → Prop, Fn = fun i => F i ∨ w.heap.size ≤ i := ⟨_, rfl⟩
  have hFsub : ∀ i, F i → Fn i := fun i hi => by rw [hFn]; exact .inl hi
  have hFnew : ∀ i, w.heap.size ≤ i → Fn i := fun i hi => by rw [hFn]; exact .inr hi
  obtain ⟨es, hes⟩ : ∃ es, es = ys.map (·.1) := ⟨_, rfl⟩
  let Inv : Nat → World → Value → Prop := fun i W kv => ∃ wv', W.heap[A]? = some (.cells (refCs (refI d now c (es.take i)) D wv' sv) 63 (0, 0)) ∧ RWt W N Fn wv' (xs.filter (keptX d (es.take i))) ∧ RSt W F sv ys ∧
   W.ownsRow w.heap.size 106 3 kv ((ys.take i).filter fun y => !goneE d y.1).length (((ys.take i).filter fun y => !goneE d y.1).flatMap rsC) ∧ RWinAt W Fn D (accR V d.seq).2 nv' ∧
   W.heap[X]? = some (.cells #[.int .u16 d.seq, .bool d.any, .int .u16 d.last, .int .u32 d.bits, .slice q d.list.length cq] 102 (0, 0)) ∧ OwnMsgs W w.heap.size (.slice q d.list.length cq) d.list ∧ Fm (fun i => i = A ∨ i = D) w W
  have hI0 : Inv 0 w35 (.slice none 0 0) := by
   refine ⟨wv, ?_, ?_, hS30.keep hfA35 (fun i C t hi _ ht => hnoA30 i _ _ hi (by rcases ht with ⟨rfl, _⟩ | rfl <;> decide)) fun _ => id, World.ownsRow_nil _ _ _ _, hwin30.keep hfA35 (fun i C t hi _ ht => hnoA30 i _ _ hi (by rcases ht with rfl | rfl <;> decide)) (fun i hi => hi.elim (hFsub i) fun h => hFnew i (by omega)), hfA35.keep hX30 (hnoA30 _ _ _ hX30 (by decide)), hown30.keep hfA35 (fun i C t hi _ ht => hnoA30 i _ _ hi (by rcases ht with rfl | rfl <;> decide)), hF35⟩
   ·rw [hb35]
    congr 2
    unfold refCs refI
    simp only [List.take_zero, List.foldl_nil, hany]
    rfl
   ·have e1 : xs.filter (keptX d (es.take 0)) = xs := List.filter_eq_self.2 fun x _ => by unfold keptX; simp
    rw [e1]
    exact hW30.keep hfA35 (fun i C hi _ _ => hnoA30 i _ _ hi (by decide)) hNA hFsub
  refine ⟨fun u W => Inv ys.length W (u 10), ?_, ?_⟩
  ·refine ⟨fun u W => ∃ i : Nat, i ≤ ys.length ∧ u 11 = .int .i64 i ∧ Inv i W (u 10), fun u _ => ys.length - (intOf (u 11)).toNat, ⟨0, by omega, rfl, hI0⟩, ?_⟩
   rintro u W ⟨i, hi, h11, hI⟩
   change u 11 = _ at h11
   have hI' : Inv i W (u 10) := hI
   obtain ⟨wv', hbA, hWi, hSi, hki, hVi, hXi, hOi, hFi⟩ := id hI'
   obtain ⟨ps, cs, hsv⟩ := svSl hSi
   have kS : W.cell? ⟨A, 3, none⟩ = some (.slice ps ys.length cs) := by rw [← hsv]; exact cellOf hbA rfl
   simp only [h11, kS, vq, eqV, nilV]
   refine br_dec (fun hlt => ?_) (fun hge => ?_)
   ·obtain ⟨y, hyy⟩ : ∃ y, ys[i]? = some y := ⟨ys[i]'(by omega), by simp⟩
    obtain ⟨e, hv⟩ := y
    have hei : es[i]? = some e := by rw [hes, List.getElem?_map, hyy]; rfl
    have htk : es.take (i + 1) = es.take i ++ [e] := by rw [List.take_add_one, hei]; rfl
    have htky : ys.take (i + 1) = ys.take i ++ [(e, hv)] := by rw [List.take_add_one, hyy]; rfl
    obtain ⟨hh1, hh2, hh3, hh4, hh5⟩ := hSi.has (e, hv) (List.mem_of_getElem? hyy)
    obtain ⟨g, cp, hsv2, hgo, hgc⟩ := own_cellsAt rsC_len hSi.own hyy
    rw [hsv2] at hsv
    simp only [Value.slice.injEq] at hsv
    obtain ⟨rfl, -, rfl⟩ := hsv
    have hgF : g < w.heap.size := hB.lt g (hSi.fs g hgo)
    obtain ⟨ph, ch, hhv, -⟩ := own_read hh1
    change hv = _ at hhv
    refine ⟨fun u' W' => Inv (i + 1) W' (u' 10), ?_, ?_⟩
    ·have hgc' : cellsAt W (Addr.add ⟨g, 0, none⟩ (i * 3)) 3 = some (rsC (e, hv)) := by rw [addr_add, Nat.zero_add]; exact hgc
     simp only [kS, hgc', Int.toNat_natCast, vq, eqV, nilV]
     refine ⟨by omega, ?_⟩
     refine allocC_of fun W1 hb1 hs1 hf1' => ?_
     obtain ⟨Y, hY⟩ : ∃ Y, Y = W.heap.size := ⟨_, rfl⟩
     rw [← hY] at hb1 ⊢
     refine rd_of (v := ()) rfl ?_
     refine stC_all hb1 rfl (fun v hv' => by simp [rsC] at hv'; rcases hv' with rfl | rfl | rfl <;> first | rfl | (rw [hhv]; rfl)) fun W2 hb2 hf2 => ?_
     have hf2' : Fm none' W W2 := hf1'.trans' hf2 fun i hi e => by omega
     have hX2 := hf2'.keep hXi id
     have k2 : W2.cell? ⟨X, 2, none⟩ = some (.int .u16 d.last) := cellOf hX2 rfl
     have k3 : W2.cell? ⟨X, 3, none⟩ = some (.int .u32 d.bits) := cellOf hX2 rfl
     have k1 : W2.cell? ⟨X, 1, none⟩ = some (.bool d.any) := cellOf hX2 rfl
     have kY : W2.cell? ⟨Y, 0, none⟩ = some (.int .u16 e.seq) := cellOf hb2 rfl
     have kY1 : W2.cell? ⟨Y, 1, none⟩ = some (.int .u32 e.now) := cellOf hb2 rfl
     have kY2 : W2.cell? ⟨Y, 2, none⟩ = some hv := cellOf hb2 rfl
     have kYs : cellsAt W2 ⟨Y, 0, none⟩ 3 = some (rsC (e, hv)) := cells_all hb2 rfl
     simp only [k2, k3, kY, vq, eqV, nilV]
     refine (acked40_c hdok.last hdok.bits hh3).mono ?_
     rintro _ W2 ⟨rfl, rfl⟩
     simp only [k1, kYs, vq, eqV, nilV]
     have hWF := hFi.size
     have hYw : w.heap.size ≤ Y := by rw [hY]; exact hWF
     -- a datagram that is kept
     have keep : goneE d e = false → ∀ (KK : World → Value → Prop), (∀ W' v, Inv (i + 1) W' v → ∀ p n c', v = .slice p n c' → KK W' v) →
       isSl (u 10) fun o69 n70 n71 => runs Tryz.prog (Instr.buildSlice 60 1 #[(0, .agg (rsC (e, hv)).toArray)]) W2 fun v73 w74 => isSl v73 fun o75 n76 n77 => runs Tryz.prog (Builtin.append_ #[60, 60] 60 #[.slice o69 n70 n71, .slice o75 n76 n77]) w74 fun v78 w79 => isSl v78 fun o80 n81 n82 => KK w79 (.slice o80 n81 n82) := by
      intro hg KK hKK
      obtain ⟨pk, ck, hkv, -⟩ := own_readS hki
      rw [hkv] at hki ⊢
      simp only [vq, eqV, nilV]
      refine build_Sg (cs := rsC (e, hv)) (by rw [row60]) row106 rfl (by omega) (by omega) rfl fun W3 hb3 hs3 hf3 => ?_
      simp only [vq, eqV, nilV]
      have hf3' := hf2'.trans hf3
      have hkl : ((ys.take i).filter fun y => !goneE d y.1).length ≤ 1000000 := by
       have := List.length_filter_le (fun y : Ent × Value => !goneE d y.1) (ys.take i)
       rw [List.length_take] at this; omega
      refine append_rS (m := 1) (ys := rsC (e, hv)) (by rw [row60]) row106 rfl (by omega) (hf3'.owns hki fun _ _ => id) rfl (fun v hv' => by simp [rsC] at hv'; rcases hv' with rfl | rfl | rfl <;> first | rfl | (rw [hhv]; rfl)) (fun k y hy => ⟨_, _, rfl, by rw [Nat.zero_add]; exact cellOf hb3 (by simpa using hy)⟩) (by have := hf3'.size; omega) (by simp only [maxLen]; omega) (by omega) fun p' c' W4 ho4 hf4 hblk4 => ?_
      simp only [vq, eqV, nilV]
      have hkb : ∀ j, (Value.slice pk ((ys.take i).filter fun y => !goneE d y.1).length ck).ownBlock = some j → w.heap.size ≤ j ∧ ∃ C, W.heap[j]? = some (.cells C 106 (0, 0)) := fun j hj => own_block hki hj
      have hf4' : Fm (fun j => (Value.slice pk ((ys.take i).filter fun y => !goneE d y.1).length ck).ownBlock = some j) W W4 := hf3'.none.trans hf4
      have hno : ∀ j C t, W.heap[j]? = some (.cells C t (0, 0)) → t ≠ 106 → ¬ (Value.slice pk ((ys.take i).filter fun y => !goneE d y.1).length ck).ownBlock = some j := by
       intro j C t hj ht hw
       obtain ⟨_, C', hC'⟩ := hkb j hw
       rw [hj] at hC'; cases hC'; exact ht rfl
      have hge : (ys.take (i + 1)).filter (fun y => !goneE d y.1) = (ys.take i).filter (fun y => !goneE d y.1) ++ [(e, hv)] := by rw [htky, List.filter_append]; simp [hg]
      have hst : refI d now c (es.take (i + 1)) = refI d now c (es.take i) := by
       unfold refI
       rw [htk, List.foldl_append]
       have : ∀ s, List.foldl (stepE d now) s [e] = s := fun s => by rw [List.foldl_cons, List.foldl_nil, stepE_eq, hg]; rfl
       rw [this]
       simp [hg]
      refine hKK W4 _ ⟨wv', ?_, ?_, ?_, ?_, ?_, ?_, ?_, ?_⟩ _ _ _ rfl
      ·rw [hst]; exact hf4'.keep hbA (hno _ _ _ hbA (by decide))
      ·rw [htk, keptX_skip hg]
       exact hWi.keep hf4' (fun j C hj _ _ => hno j _ _ hj (by decide)) (fun j hj hw => by have := (hkb j hw).1; omega) fun _ => id
      ·exact hSi.keep hf4' (fun j C t hj hFj _ hw => by have := (hkb j hw).1; have := hB.lt j hFj; omega) fun _ => id
      ·rw [hge, List.length_append, List.flatMap_append]
       have e2 : [(e, hv)].flatMap rsC = rsC (e, hv) := by simp
       rw [e2]
       exact ho4
      ·exact hVi.keep hf4' (fun j C t hj _ ht => hno j _ _ hj (by rcases ht with rfl | rfl <;> decide)) fun _ => id
      ·exact hf4'.keep hXi (hno _ _ _ hXi (by decide))
      ·exact hOi.keep hf4' fun j C t hj _ ht => hno j _ _ hj (by rcases ht with rfl | rfl <;> decide)
      ·exact hFi.trans' hf4' fun j hj hw => by have := (hkb j hw).1; omega
     have hge : goneE d e = (d.any && ackW d.last d.bits e.seq) := rfl
     cases hda : d.any with
     | false =>
      simp only [Bool.not_false, vq, eqV, nilV]
      exact keep (by rw [hge, hda]; rfl) (fun W' v => Inv (i + 1) W' v) fun W' v h _ _ _ _ => h
     | true =>
      simp only [Bool.not_true, vq, eqV, nilV]
      cases hak : ackW d.last d.bits e.seq with
      | false =>
       simp only [Bool.not_false, vq, eqV, nilV]
       exact keep (by rw [hge, hda, hak]; rfl) (fun W' v => Inv (i + 1) W' v) fun W' v h _ _ _ _ => h
      | true =>
       simp only [Bool.not_true, vq, eqV, nilV]
       have hg : goneE d e = true := by rw [hge, hda, hak]; rfl
       obtain ⟨ci, hci⟩ : ∃ ci, ci = refI d now c (es.take i) := ⟨_, rfl⟩
       rw [← hci] at hbA
       have hrtt : ci.rtt ≤ 1000 := by rw [hci]; exact stepE_rtt (by have := hB.rtt; exact this)
       have htook : tookN now e.now ≤ 1000 := by unfold tookN; split <;> omega
       have hbA2 := hf2'.keep hbA id
       refine ⟨fun u' W' => W' = W2 ∧ u' 14 = .int .i64 (tookN now e.now), ?_, ?_⟩
       ·simp only [kY1, vq, eqV, nilV]
        refine br_dec (fun hlt' => ?_) (fun hge' => ?_)
        ·show Value.int .i64 _ = _
         congr 1
         rw [show IntKind.u32.wrap ((now : Int) - e.now) = ((now - e.now : Nat) : Int) from (w32 (by omega)).trans (by omega), w64 (by omega)]
         unfold tookN
         rw [if_pos (by omega)]
         omega
        ·show Value.int .i64 0 = _
         have : tookN now e.now = 0 := by unfold tookN; rw [if_neg (by omega)]
         rw [this]; rfl
       rintro u1 W2 ⟨rfl, h14⟩
       change u1 14 = _ at h14
       obtain ⟨r, hr⟩ : ∃ r : Nat, r = (sampN (ci.rtt, ci.timed) (tookN now e.now)).1 := ⟨_, rfl⟩
       have hrle : r ≤ 1000 := by
        rw [hr]; unfold sampN
        show (if ci.timed = true then _ else _) ≤ 1000
        split <;> omega
       refine ⟨fun u' W' => W' = W2 ∧ u' 14 = .int .i64 r, ?_, ?_⟩
       ·have k7 : W2.cell? ⟨A, 7, none⟩ = some (.bool ci.timed) := cellOf hbA2 rfl
        have k6 : W2.cell? ⟨A, 6, none⟩ = some (.int .i64 ci.rtt) := cellOf hbA2 rfl
        simp only [h14, k7, k6, vq, eqV, nilV]
        cases htm : ci.timed with
        | true =>
         simp only [vq, eqV, nilV]
         show Value.int .i64 _ = _
         congr 1
         have hr' : r = (7 * ci.rtt + tookN now e.now + 4) / 8 := by rw [hr, htm]; rfl
         rw [hr', show IntKind.i64.wrap (7 * (ci.rtt : Int)) = ((7 * ci.rtt : Nat) : Int) from (w64 (by omega)).trans (by omega), show IntKind.i64.wrap (((7 * ci.rtt : Nat) : Int) + (tookN now e.now : Nat)) = ((7 * ci.rtt + tookN now e.now : Nat) : Int) from (w64 (by omega)).trans (by omega),
          show IntKind.i64.wrap (((7 * ci.rtt + tookN now e.now : Nat) : Int) + 4) = ((7 * ci.rtt + tookN now e.now + 4 : Nat) : Int) from (w64 (by omega)).trans (by omega), Int.tdiv_eq_ediv_of_nonneg (by omega),
          show IntKind.i64.wrap (((7 * ci.rtt + tookN now e.now + 4 : Nat) : Int) / 8) = (((7 * ci.rtt + tookN now e.now + 4) / 8 : Nat) : Int) from (w64 (by omega)).trans (by omega)]
        | false =>
         simp only [vq, eqV, nilV]
         rw [hr, htm]; rfl
       rintro u2 W2 ⟨rfl, h14'⟩
       change u2 14 = _ at h14'
       simp only [h14', vq, eqV, nilV]
       refine stC_one hbA2 (by simp [refCs]) rfl fun W3 hb3 hf3 => ?_
       refine stC_one hb3 (by simp [refCs]) rfl fun W4 hb4 hf4 => ?_
       have hf4' : Fm (fun j => j = A) W W4 := hf2'.none.trans (hf3.trans hf4)
       have hnoA : ∀ j C t, W.heap[j]? = some (.cells C t (0, 0)) → t ≠ 63 → ¬ j = A := by
        rintro j C t hj ht rfl
        rw [hbA] at hj; cases hj; exact ht rfl
       have hb4' : W4.heap[A]? = some (.cells (refCs { ci with rtt := r, timed := true } D wv' sv) 63 (0, 0)) := hb4
       have hW4 : RWt W4 N Fn wv' (xs.filter (keptX d (es.take i))) := hWi.keep hf4' (fun j C hj _ _ => hnoA j _ _ hj (by decide)) hNA fun _ => id
       obtain ⟨zs, hzs⟩ : ∃ zs, zs = xs.filter (keptX d (es.take i)) := ⟨_, rfl⟩
       rw [← hzs] at hW4
       have hzl : zs.length ≤ 64 := by
        have h1 := List.length_filter_le (keptX d (es.take i)) xs
        have h2 : c.wait.length = xs.length := by rw [hwx, List.length_map]
        have h3 := hB.many
        rw [hzs]; omega
       obtain ⟨pw, cw, hwv⟩ := wvSl hW4
       have hsz4 := hf4'.size
       have hYb4 : W4.heap[Y]? = some (.cells (rsC (e, hv)).toArray 106 (0, 0)) := (hf3.trans hf4).keep hb2 (by show ¬ Y = A; omega)
       have hh4 : W4.ownsRow 0 3 1 hv e.ids.length (intsV e.ids) := hf4'.owns hh1 fun j hj => by
        obtain ⟨_, cur, hc⟩ := own_block hh1 hj
        exact hnoA j _ _ hc (by decide)
       refine ⟨fun u' W' => Fm none' W4 W' ∧ W'.ownsRow W4.heap.size 79 24 (u' 15) (zs.filter fun x => !decide (x.1.1 ∈ e.ids)).length ((zs.filter fun x => !decide (x.1.1 ∈ e.ids)).flatMap rwC), ?_, ?_⟩
       ·refine ⟨fun u' W' => ∃ k : Nat, k ≤ zs.length ∧ u' 16 = .int .i64 k ∧ Fm none' W4 W' ∧ W'.ownsRow W4.heap.size 79 24 (u' 15) ((zs.take k).filter fun x => !decide (x.1.1 ∈ e.ids)).length (((zs.take k).filter fun x => !decide (x.1.1 ∈ e.ids)).flatMap rwC), fun u' _ => zs.length - (intOf (u' 16)).toNat, ⟨0, by omega, rfl, Fm.refl _ _, World.ownsRow_nil _ _ _ _⟩, ?_⟩
        rintro u3 W5 ⟨k, hk, h16, hf5, ho5⟩
        change u3 16 = _ at h16
        have ho5' : W5.ownsRow W4.heap.size 79 24 (u3 15) ((zs.take k).filter fun x => !decide (x.1.1 ∈ e.ids)).length (((zs.take k).filter fun x => !decide (x.1.1 ∈ e.ids)).flatMap rwC) := ho5
        have hb5 := hf5.keep hb4' id
        have kw : W5.cell? ⟨A, 2, none⟩ = some (.slice pw zs.length cw) := by rw [← hwv]; exact cellOf hb5 rfl
        simp only [h16, kw, vq, eqV, nilV]
        refine br_dec (fun hlt' => ?_) (fun hge' => ?_)
        ·obtain ⟨x, hx⟩ : ∃ x, zs[k]? = some x := ⟨zs[k]'(by omega), by simp⟩
         have htkz : zs.take (k + 1) = zs.take k ++ [x] := by rw [List.take_add_one, hx]; rfl
         have hW5 : RWt W5 N Fn wv' zs := hW4.keep hf5 (fun _ _ _ _ _ => id) (fun _ _ => id) fun _ => id
         obtain ⟨gx, cx, hwv2, hgx, hgc5⟩ := own_cellsAt rwC_len hW5.own hx
         rw [hwv2] at hwv
         simp only [Value.slice.injEq] at hwv
         obtain ⟨rfl, -, rfl⟩ := hwv
         have kN : W5.cell? ⟨gx, k * 24, none⟩ = some (.int .i64 (x.1.1 : Nat)) := by
          have := cells_head hgc5
          rwa [addr_add, Nat.add_zero] at this
         have kh : W5.cell? ⟨Y, 2, none⟩ = some (.slice ph e.ids.length ch) := by rw [← hhv]; exact cellOf (hf5.keep hYb4 id) rfl
         have hIn5 : IntsAt W5 .i64 ph e.ids := by
          have := hf5.owns hh4 fun _ _ => id
          rw [hhv] at this
          exact IntsAt.of_own this
         refine ⟨fun u' W' => Fm none' W4 W' ∧ W'.ownsRow W4.heap.size 79 24 (u' 15) ((zs.take (k + 1)).filter fun x => !decide (x.1.1 ∈ e.ids)).length (((zs.take (k + 1)).filter fun x => !decide (x.1.1 ∈ e.ids)).flatMap rwC), ?_, ?_⟩
         ·refine ⟨fun W' => W' = W5.drew, rfl, ?_⟩
          simp only [addr_add, Nat.zero_add, Int.toNat_natCast] at kh kw ⊢
          simp only [cell_drew, cells_drew, kh, kw, kN, hgc5, forall_eq, addr_add, Nat.zero_add, vq, eqV, nilV]
          refine ⟨by omega, by omega, ?_⟩
          refine (in41_c (w := W5.drew) (fun j x' hj => hIn5 j x' hj) (Nat.le_trans hh5 (by omega))).mono ?_
          rintro _ _ ⟨rfl, rfl⟩
          simp only [vq, eqV, nilV]
          have hf5d : Fm none' W4 W5.drew := hf5.trans (Fm.drew W5)
          refine br_ndec (fun hout => ?_) (fun hin => ?_)
          ·have hfl : (zs.take (k + 1)).filter (fun x => !decide (x.1.1 ∈ e.ids)) = (zs.take k).filter (fun x => !decide (x.1.1 ∈ e.ids)) ++ [x] := by rw [htkz, List.filter_append]; simp [hout]
           obtain ⟨p5, c5, h15, -⟩ := own_readS ho5'
           rw [h15] at ho5' ⊢
           simp only [kw, cell_drew, cells_drew, hgc5, addr_add, Nat.zero_add, vq, eqV, nilV]
           refine ⟨by omega, ?_⟩
           have hfll := List.length_filter_le (fun x : (Nat × Msg) × (Option Addr × Nat) => !decide (x.1.1 ∈ e.ids)) (zs.take k)
           rw [List.length_take] at hfll
           refine build_Sg (cs := rwC x) (by rw [row59]) row79 rfl (by omega) (by omega) rfl fun W6 hb6 hs6 hf6 => ?_
           simp only [vq, eqV, nilV]
           refine append_rS (m := 1) (ys := rwC x) (by rw [row59]) row79 rfl (by omega) ((((Fm.drew W5).trans hf6)).owns ho5' fun _ _ => id) rfl (rwC_one x) (fun k y hy => ⟨_, _, rfl, by rw [Nat.zero_add]; exact cellOf hb6 (by simpa using hy)⟩) (Nat.le_trans hf5d.size hf6.size) (by simp only [maxLen]; omega) (by omega) fun p' c' W7 ho7 hf7 hblk7 => ?_
           simp only [vq, eqV, nilV]
           refine ⟨(hf5d.trans hf6).trans' hf7 fun j hj hw => by have := (own_block ho5' hw).1; omega, ?_⟩
           show W7.ownsRow W4.heap.size 79 24 (.slice p' _ c') _ _
           rw [hfl, List.length_append, List.flatMap_append]
           have e2 : [x].flatMap rwC = rwC x := by simp
           rw [e2]
           exact ho7
          ·have hfl : (zs.take (k + 1)).filter (fun x => !decide (x.1.1 ∈ e.ids)) = (zs.take k).filter (fun x => !decide (x.1.1 ∈ e.ids)) := by rw [htkz, List.filter_append]; simp [hin]
           rw [hfl]
           exact ⟨hf5d, (Fm.drew W5).owns ho5' fun _ _ => id⟩
         ·rintro u4 W6 ⟨hf6, ho6⟩
          rw [show IntKind.i64.wrap ((k : Int) + 1) = ((k + 1 : Nat) : Int) from (w64 (by omega)).trans (by omega)]
          refine ⟨⟨k + 1, by omega, rfl, hf6, ho6⟩, ?_⟩
          show zs.length - ((k + 1 : Nat) : Int).toNat < zs.length - (k : Int).toNat
          omega
        ·rw [List.take_of_length_le (by omega)] at ho5'
         exact ⟨hf5, ho5'⟩
       rintro u3 W5 ⟨hf5, ho5⟩
       have ho5' : W5.ownsRow W4.heap.size 79 24 (u3 15) (zs.filter fun x => !decide (x.1.1 ∈ e.ids)).length ((zs.filter fun x => !decide (x.1.1 ∈ e.ids)).flatMap rwC) := ho5
       obtain ⟨p5, c5, h15, -⟩ := own_readS ho5'
       rw [h15] at ho5' ⊢
       simp only [vq, eqV, nilV]
       have hb5 := hf5.keep hb4' id
       refine stC_one hb5 (by simp [refCs]) rfl fun W6 hb6 hf6 => ?_
       have hf6' : Fm (fun j => j = A) W W6 := (hf4'.trans hf5.none).trans hf6
       have hzn : xs.filter (keptX d (es.take (i + 1))) = zs.filter fun x => !decide (x.1.1 ∈ e.ids) := by rw [htk, keptX_gone hg, hzs]
       have hst : refI d now c (es.take (i + 1)) = { ci with rtt := r, timed := true, wait := (refI d now c (es.take (i + 1))).wait } := by
        rw [hr, hci]
        unfold refI
        rw [htk, List.foldl_append]
        have : ∀ s : Nat × Bool, List.foldl (stepE d now) s [e] = ((sampN s (tookN now e.now)).1, true) := fun s => by rw [List.foldl_cons, List.foldl_nil, stepE_eq, hg]; rfl
        rw [this]
       have hkk : (ys.take (i + 1)).filter (fun y => !goneE d y.1) = (ys.take i).filter (fun y => !goneE d y.1) := by rw [htky, List.filter_append]; simp [hg]
       refine ⟨.slice p5 (zs.filter fun x => !decide (x.1.1 ∈ e.ids)).length c5, ?_, ?_, ?_, ?_, ?_, ?_, ?_, ?_⟩
       ·rw [hst]; exact hb6
       ·rw [hzn]
        have hno5 : ∀ j C t, W5.heap[j]? = some (.cells C t (0, 0)) → t ≠ 63 → ¬ j = A := by
         rintro j C t hj ht rfl
         rw [hb5] at hj; cases hj; exact ht rfl
        refine ⟨own_base (hf6.owns ho5' fun j hj => ?_) (Nat.zero_le _), fun j hj => ?_, fun x hx => ?_, fun x hx => ?_⟩
        ·obtain ⟨_, cur, hc⟩ := own_block ho5' hj
         exact hno5 j _ _ hc (by decide)
        ·exact hFnew j (by have := (own_block ho5' hj).1; omega)
        ·have := hW4.byt x (List.mem_filter.1 hx).1
         exact ⟨(this.1.keep hf5 fun _ _ => id).keepN hf6 fun ad e1 hne => hNA _ (this.2 ad e1 hne), this.2⟩
        ·exact hW4.rok x (List.mem_filter.1 hx).1
       ·exact hSi.keep hf6' (fun j C t hj _ ht => hnoA j _ _ hj (by rcases ht with ⟨rfl, _⟩ | rfl <;> decide)) fun _ => id
       ·rw [hkk]
        refine hf6'.owns hki fun j hj => ?_
        obtain ⟨_, cur, hc⟩ := own_block hki hj
        exact hnoA j _ _ hc (by decide)
       ·exact hVi.keep hf6' (fun j C t hj _ ht => hnoA j _ _ hj (by rcases ht with rfl | rfl <;> decide)) fun _ => id
       ·exact hf6'.keep hXi (hnoA _ _ _ hXi (by decide))
       ·exact hOi.keep hf6' fun j C t hj _ ht => hnoA j _ _ hj (by rcases ht with rfl | rfl <;> decide)
       ·exact hFi.trans (hf6'.mono fun j _ e => .inl e)
    ·rintro u' W' hI2
     rw [show IntKind.i64.wrap ((i : Int) + 1) = ((i + 1 : Nat) : Int) from (w64 (by omega)).trans (by omega)]
     refine ⟨⟨i + 1, by omega, rfl, hI2⟩, ?_⟩
     show ys.length - ((i + 1 : Nat) : Int).toNat < ys.length - (i : Int).toNat
     omega
   ·have : i = ys.length := by omega
    subst this
    exact hI'
  rintro u W hI
  have hI' : Inv ys.length W (u 10) := hI
  obtain ⟨wv', hbA, hWi, hSi, hki, hVi, hXi, hOi, hFi⟩ := hI'
  have hel : es.length = ys.length := by rw [hes, List.length_map]
  have hest : es.take ys.length = c.sent := by rw [← hel, List.take_length, hes, hsy]
  rw [hest] at hbA hWi
  rw [List.take_length] at hki
  obtain ⟨pk, ck, hkv, -⟩ := own_readS hki
  rw [hkv] at hki ⊢
  simp only [vq, eqV, nilV]
  refine stC_one hbA (by simp [refCs]) rfl fun w' hb' hf' => ?_
  have hno : ∀ j C t, W.heap[j]? = some (.cells C t (0, 0)) → t ≠ 63 → ¬ j = A := by
   rintro j C t hj ht rfl
   rw [hbA] at hj; cases hj; exact ht rfl
  have hX' := hf'.keep hXi (hno _ _ _ hXi (by decide))
  have k4 : w'.cell? ⟨X, 4, none⟩ = some (.slice q d.list.length cq) := cellOf hX' rfl
  simp only [k4, vq, eqV, nilV]
  have hfin : unpackC c bs now = ((d.list, 0), { refI d now c c.sent with sent := c.sent.filter fun e => !goneE d e }) := by
   unfold unpackC
   rw [if_neg (by simpa using he), ← hd, if_neg (by rw [hac]; simp)]
   rfl
  rw [hfin]
  have hFw : Fm (fun i => i = A ∨ i = D) w w' := hFi.trans (hf'.mono fun j _ e => .inl e)
  have hsz := hFw.size
  have hfit : ∀ i, Fn i → i < w'.heap.size → FNew F w w' i := fun i hi hlt => by rw [hFn] at hi; exact hi.elim .inl fun h => .inr ⟨h, hlt⟩
  have hW' := hWi.keep hf' (fun j C hj _ _ => hno j _ _ hj (by decide)) hNA fun _ => id
  have hV' := hVi.keep hf' (fun j C t hj _ ht => hno j _ _ hj (by rcases ht with rfl | rfl <;> decide)) fun _ => id
  have hk' := hf'.owns hki fun j hj => by
   obtain ⟨_, cur, hc⟩ := own_block hki hj
   exact hno j _ _ hc (by decide)
  have hcw : c.sent.filter (fun e => !goneE d e) = (ys.filter fun y => !goneE d y.1).map (·.1) := by rw [hsy, List.filter_map]; rfl
  have hbox : RefBox w' N (FNew F w w') A D (K + 1) { refI d now c c.sent with sent := c.sent.filter fun e => !goneE d e } (accR V d.seq).2 wv' (.slice pk (ys.filter fun y => !goneE d y.1).length ck) nv' := by
   refine { box := hb', fA := .inl hB.fA, lt := fun i hi => hi.elim (fun h => Nat.lt_of_lt_of_le (hB.lt i h) hsz) (·.2), hi := fun i hi => hi.elim (hB.hi i) fun h => by omega, win := ⟨hV'.box, hV'.own, .inl hB.win.fD, fun i hi => hfit i (hV'.fn i hi) ?_⟩, eq := heq', next := hB.next, heard := hnow, rtt := stepE_rtt hB.rtt, few := Nat.le_trans (accR_near _ _) (by have := hB.few; omega), pushed := Nat.le_trans hB.pushed (by omega), many := Nat.le_trans (List.length_filter_le _ _) hB.many }
   obtain ⟨_, cur, hc⟩ := own_block hV'.own hi
   exact lt_of_blk hc
  have hwt : RWt w' N (FNew F w w') wv' (xs.filter (keptX d c.sent)) := by
   refine ⟨hW'.own, fun i hi => hfit i (hW'.fw i hi) ?_, hW'.byt, hW'.rok⟩
   obtain ⟨_, cur, hc⟩ := own_block hW'.own hi
   exact lt_of_blk hc
  have hst : RSt w' (FNew F w w') (.slice pk (ys.filter fun y => !goneE d y.1).length ck) (ys.filter fun y => !goneE d y.1) := by
   refine ⟨own_base hk' (Nat.zero_le _), fun i hi => ?_, fun y hyy => ?_⟩
   ·obtain ⟨h1, cur, hc⟩ := own_block hk' hi; exact .inr ⟨h1, lt_of_blk hc⟩
   ·exact ((hSi.has y (List.mem_filter.1 hyy).1).keep hf' (fun j C hj _ => hno j _ _ hj (by decide)) fun _ => id).up fun i hi => .inl hi
  refine ⟨q, cq, rfl, ?_, ⟨D, _, wv', _, nv', _, _, hbox, hwt, hst, refI_wait (now := now) hwx, hcw⟩, hFw.mono fun i _ hi => hi.elim (fun e => e ▸ hB.fA) fun e => e ▸ hB.win.fD⟩
  exact hOi.keep hf' fun j C t hj _ ht => hno j _ _ hj (by rcases ht with rfl | rfl <;> decide)
end
end Go.Proofs.YtipikchkbmgloaaGreatDoor
namespace Go.Proofs.YtipikchkbmgloaaGreatDoor
set_option linter.unusedSimpArgs false
set_option linter.unusedVariables false
open Go Go.RowKit VC
variable {w : World}
theorem conv_run {q : Option Addr} {n c : Nat} {ys : List Int} {K : Value → World → Prop} (hn : n = ys.length) (h : BytesAt w q ys) (k : K (.string (strOfNums ys)) w) : runs Tryz.prog (convert 39 9 (.slice q n c)) w K :=
 conv_bytes (by rw [row39]) (by rw [row5]) (by rw [row9]) hn (fun j y hj => h j y hj) k
theorem decD_rok {ys : List Int} (hy : ∀ y ∈ ys, 0 ≤ y ∧ y < 256) : (∀ m ∈ (decD ys).1.list, Rok m) ∧ (decD ys).1.list.length ≤ 16 := by
 have hz : (∀ m ∈ dgZ.list, Rok m) ∧ dgZ.list.length ≤ 16 := ⟨by simp [dgZ], by simp [dgZ]⟩
 unfold decD
 split
 ·exact hz
 split
 ·exact hz
 split
 ·exact hz
 split
 ·exact hz
 rename_i h
 have hr : decodeM ((bodyB ys).drop 9) = ((decodeM ((bodyB ys).drop 9)).1, 0) := by
  have h' : (decodeM ((bodyB ys).drop 9)).2 = 0 := by simpa using h
  rw [← h']
 have := enc_dec (fun y h => hy y (List.mem_of_mem_take (List.mem_of_mem_drop h))) hr
 exact ⟨this.1, this.2.1⟩
end Go.Proofs.YtipikchkbmgloaaGreatDoor
namespace Go.Proofs.YtipikchkbmgloaaGreatDoor
set_option linter.unusedSimpArgs false
set_option linter.unusedVariables false
open Go Go.RowKit VC
variable {w : World}
theorem RowMsgs.blk {base N : Nat} {v : Value} {l : List Msg} (h : RowMsgs w base N v l) {i : Nat} (hi : v.ownBlock = some i) : base ≤ i ∧ i < w.heap.size ∧ ∃ C, w.heap[i]? = some (.cells C 41 (0, 0)) := by
 obtain ⟨qs, h1, h2, h3⟩ := h
 obtain ⟨hb, cur, hc⟩ := own_block h2 hi
 exact ⟨hb, lt_of_blk hc, cur, hc⟩
theorem RowMsgs.keepS {w' : World} {base N : Nat} {v : Value} {l : List Msg} {S : Nat → Prop} (h : RowMsgs w base N v l) (f : Fm S w w') (h1 : ∀ i, v.ownBlock = some i → ¬ S i) (h2 : ∀ i, i < N → ¬ S i) : RowMsgs w' base N v l := by
 obtain ⟨qs, a1, a2, a3⟩ := h
 refine ⟨qs, a1, f.owns a2 h1, fun j m q hj hq => ?_⟩
 obtain ⟨b1, b2⟩ := a3 j m q hj hq
 exact ⟨b1.keepN f fun ad e hne => h2 _ (b2 ad e hne), b2⟩
section
variable {w0 : World} {F : Nat → Prop} {A : Nat} {c : Ch}
end
end Go.Proofs.YtipikchkbmgloaaGreatDoor
namespace Go.Proofs.YtipikchkbmgloaaGreatDoor
set_option linter.unusedSimpArgs false
set_option linter.unusedVariables false
open Go Go.RowKit VC
variable {w : World}
structure DrAt (W : World) (B D : Nat) (d : Dg) (p : Option Addr) (c : Nat) : Prop where
 blk : W.heap[D]? = some (.cells (dgCs d p c) 102 (0, 0))
 rows : RowMsgs W B B (.slice p d.list.length c) d.list
theorem DrAt.keep {W W' : World} {B D : Nat} {d : Dg} {p : Option Addr} {c : Nat} (h : DrAt W B D d p c) (f : Fm none' W W') : DrAt W' B D d p c := ⟨f.keep h.blk id, h.rows.keep f fun _ _ => id⟩
theorem app_rowsB {base B M : Nat} {s : Value} {q : Option Addr} {L : List Msg} {e : Nat} {KK : Value → World → Prop} (hr : RowMsgs w B B (.slice q L.length e) L) (hm : MsgsAt w M q L) (hown : w.ownsRow base 41 23 s 0 []) (hM : M ≤ base) (hb : base ≤ w.heap.size) (hl : L.length ≤ 1000)
  (kk : ∀ v' w', RowMsgs w' base B v' L → Fm (fun i => s.ownBlock = some i) w w' → KK v' w') : runs Tryz.prog (Builtin.append_ #[45, 45] 45 #[s, .slice q L.length e]) w KK := by
 obtain ⟨qs, hql, ho, hq⟩ := hr
 have hzl : (L.zip qs).length = L.length := by rw [List.length_zip, hql, Nat.min_self]
 refine app_rowsC rfl hown hm hM hb hl fun v' w' qs' hql' ho' hq' hf => kk v' w' ⟨qs', hql', ho', fun j m q' hj hj' => ?_⟩ hf
 obtain ⟨h1, -, a, ha, hc⟩ := hq' j m q' hj hj'
 refine ⟨h1, fun ad e1 hne => ?_⟩
 have hjl : j < L.length := (List.getElem?_eq_some_iff.1 hj).1
 obtain ⟨q0, hq0⟩ : ∃ q0, qs[j]? = some q0 := ⟨qs[j]'(by omega), by simp⟩
 have hz : (L.zip qs)[j]? = some (m, q0) := by rw [List.getElem?_zip_eq_some]; exact ⟨hj, hq0⟩
 have ho2 : w.ownsRow B 41 23 (.slice q L.length e) (L.zip qs).length ((L.zip qs).flatMap fun x => msgC x.1 x.2.1 x.2.2) := by rw [hzl]; exact ho
 obtain ⟨g, cp, hsl, -, hc2⟩ := own_cellsAt (k := 23) (enc := fun x : Msg × Option Addr × Nat => msgC x.1 x.2.1 x.2.2) (fun _ => rfl) ho2 hz
 simp only [Value.slice.injEq] at hsl
 rw [ha] at hsl
 obtain ⟨hsl1, -, -⟩ := hsl
 cases hsl1
 rw [addr_add, Nat.zero_add, hc2] at hc
 have heq : q0.1 = q'.1 := by
  have h3 := congrArg (fun o => match o with | some (l : List Value) => l[22]? | none => none) hc
  simp only [msgC] at h3
  simp at h3
  exact h3.1
 exact (hq j m q0 hj hq0).2 ad (heq.trans e1) hne
theorem ord3 {T : World → Option Addr → Nat → Nat → Prop} {S : World → Prop} {B : Nat} {L : List Msg} {q : Option Addr} {e : Nat} {m : Msg} {qx : Option Addr} {cqx : Nat} (hS : ∀ W', Fm none' w W' → S W') (hr : RowMsgs w B B (.slice q L.length e) L) (hB : B ≤ w.heap.size) (hL : L.length ≤ 900)
  (hby : BytesAt w qx m.bytes) (hqN : ∀ ad, qx = some ad → m.bytes ≠ [] → ad.block < B) (k : ∀ W' p c, RowMsgs W' w.heap.size B (.slice p (L.length + 1) c) (L ++ [m]) → Fm none' w W' → T W' p (L.length + 1) c) :
  (runs Tryz.prog (Instr.buildSlice 45 0 #[]) w fun v1 w1 => isSl v1 fun o1 n1 c1 => S w1 ∧
   ((runs Tryz.prog (Builtin.append_ #[45, 45] 45 #[.slice o1 n1 c1, .slice q L.length e]) w1 fun v2 w2 => isSl v2 fun o2 n2 c2 => S w2 ∧
     runs Tryz.prog (Instr.buildSlice 45 1 #[(0, .agg (msgC m qx cqx).toArray)]) w2 fun v3 w3 => isSl v3 fun o3 n3 c3 => S w3 ∧
     runs Tryz.prog (Builtin.append_ #[45, 45] 45 #[.slice o2 n2 c2, .slice o3 n3 c3]) w3 fun v4 w4 => isSl v4 fun o4 n4 c4 => S w4 ∧ T w4 o4 n4 c4) ∧
    runs Tryz.prog (Instr.buildSlice 45 1 #[(0, .agg (msgC m qx cqx).toArray)]) w1 fun v3 w3 => isSl v3 fun o3 n3 c3 => S w3 ∧
     runs Tryz.prog (Builtin.append_ #[45, 45] 45 #[.slice o1 n1 c1, .slice q L.length e]) w3 fun v2 w2 => isSl v2 fun o2 n2 c2 => S w2 ∧
     runs Tryz.prog (Builtin.append_ #[45, 45] 45 #[.slice o2 n2 c2, .slice o3 n3 c3]) w2 fun v4 w4 => isSl v4 fun o4 n4 c4 => S w4 ∧ T w4 o4 n4 c4)) ∧
  (runs Tryz.prog (Instr.buildSlice 45 1 #[(0, .agg (msgC m qx cqx).toArray)]) w fun v3 w3 => isSl v3 fun o3 n3 c3 => S w3 ∧
   runs Tryz.prog (Instr.buildSlice 45 0 #[]) w3 fun v1 w1 => isSl v1 fun o1 n1 c1 => S w1 ∧
     runs Tryz.prog (Builtin.append_ #[45, 45] 45 #[.slice o1 n1 c1, .slice q L.length e]) w1 fun v2 w2 => isSl v2 fun o2 n2 c2 => S w2 ∧
     runs Tryz.prog (Builtin.append_ #[45, 45] 45 #[.slice o2 n2 c2, .slice o3 n3 c3]) w2 fun v4 w4 => isSl v4 fun o4 n4 c4 => S w4 ∧ T w4 o4 n4 c4) := by
 have hm0 := (RowMsgs.at (p := q) hr hB).2
 -- the copied row, and the message in block g, put together
 have last : ∀ (W : World) (p : Option Addr) (c g : Nat) (K : Value → World → Prop), RowMsgs W w.heap.size B (.slice p L.length c) L → Fm none' w W → W.heap[g]? = some (.cells (msgC m qx cqx).toArray 41 (0, 0)) →
   (∀ p c W', RowMsgs W' w.heap.size B (.slice p (L.length + 1) c) (L ++ [m]) → Fm none' w W' → K (.slice p (L.length + 1) c) W') → runs Tryz.prog (Builtin.append_ #[45, 45] 45 #[.slice p L.length c, .slice (some ⟨g, 0, none⟩) 1 1]) W K := by
  intro W p c g K hr2 hF hg k
  refine app_one hr2 hB hF.size hg (by omega) (hby.keep hF fun _ _ => id) hqN fun v W' hr3 hf3 => ?_
  obtain ⟨p3, c3, rfl⟩ := rowSl hr3
  have hl : (L ++ [m]).length = L.length + 1 := by simp
  rw [hl] at hr3 ⊢
  exact k p3 c3 W' hr3 (hF.trans' hf3 fun i hi e => by
   obtain ⟨qs, a1, a2, a3⟩ := hr2
   have := (own_block a2 e).1; omega)
 refine ⟨?_, ?_⟩
 ·refine VC.build_noneS (by rw [row45]) row41 fun w1 hs hlt1 hf1 => ?_
  try simp only [vq, eqV, nilV]
  refine ⟨hS w1 hf1, ?_, ?_⟩
  ·refine app_rowsB (base := w.heap.size) (hr.keep hf1 fun _ _ => id) (hm0.keep hf1 fun _ _ => id) hs (Nat.le_refl _) hf1.size (by omega) fun v w2 hr2 hf2 => ?_
   obtain ⟨p2, c2, rfl⟩ := rowSl hr2
   have hF2 : Fm none' w w2 := hf1.trans' hf2 fun i hi e => by have := (own_block hs e).1; omega
   try simp only [vq, eqV, nilV]
   refine ⟨hS w2 hF2, ?_⟩
   refine build_Sg (cs := msgC m qx cqx) (by rw [row45]) row41 rfl (by omega) (by omega) rfl fun w3 hb3 hs3 hf3 => ?_
   try simp only [vq, eqV, nilV]
   refine ⟨hS w3 (hF2.trans hf3), ?_⟩
   refine last w3 p2 c2 _ _ (hr2.keep hf3 fun _ _ => id) (hF2.trans hf3) hb3 fun p c W' hr' hF' => ?_
   try simp only [vq, eqV, nilV]
   exact ⟨hS W' hF', k W' p c hr' hF'⟩
  ·refine build_Sg (cs := msgC m qx cqx) (by rw [row45]) row41 rfl (by omega) (by omega) rfl fun w3 hb3 hs3 hf3 => ?_
   try simp only [vq, eqV, nilV]
   have hF3 := hf1.trans hf3
   refine ⟨hS w3 hF3, ?_⟩
   refine app_rowsB (base := w.heap.size) (hr.keep hF3 fun _ _ => id) (hm0.keep hF3 fun _ _ => id) (hf3.owns hs fun _ _ => id) (Nat.le_refl _) hF3.size (by omega) fun v w2 hr2 hf2 => ?_
   obtain ⟨p2, c2, rfl⟩ := rowSl hr2
   have hF2 : Fm none' w w2 := hF3.trans' hf2 fun i hi e => by have := (own_block hs e).1; omega
   try simp only [vq, eqV, nilV]
   refine ⟨hS w2 hF2, ?_⟩
   refine last w2 p2 c2 _ _ hr2 hF2 (hf2.keep hb3 fun e => ?_) fun p c W' hr' hF' => ?_
   ·have := lt_of_blk (own_block hs e).2.choose_spec; omega
   try simp only [vq, eqV, nilV]
   exact ⟨hS W' hF', k W' p c hr' hF'⟩
 ·refine build_Sg (cs := msgC m qx cqx) (by rw [row45]) row41 rfl (by omega) (by omega) rfl fun w3 hb3 hs3 hf3 => ?_
  try simp only [vq, eqV, nilV]
  refine ⟨hS w3 hf3, ?_⟩
  refine VC.build_noneS (by rw [row45]) row41 fun w1 hs hlt1 hf1 => ?_
  try simp only [vq, eqV, nilV]
  have hF1 := hf3.trans hf1
  refine ⟨hS w1 hF1, ?_⟩
  refine app_rowsB (base := w.heap.size) (hr.keep hF1 fun _ _ => id) (hm0.keep hF1 fun _ _ => id) (own_base hs hf3.size) (Nat.le_refl _) hF1.size (by omega) fun v w2 hr2 hf2 => ?_
  obtain ⟨p2, c2, rfl⟩ := rowSl hr2
  have hF2 : Fm none' w w2 := hF1.trans' hf2 fun i hi e => by have := (own_block hs e).1; have := hf3.size; omega
  try simp only [vq, eqV, nilV]
  refine ⟨hS w2 hF2, ?_⟩
  refine last w2 p2 c2 _ _ hr2 hF2 (hf2.keep (hf1.keep hb3 id) fun e => ?_) fun p c W' hr' hF' => ?_
  ·have := (own_block hs e).1; omega
  try simp only [vq, eqV, nilV]
  exact ⟨hS W' hF', k W' p c hr' hF'⟩
section
variable {N A K : Nat} {F : Nat → Prop} {c : Ch}
set_option maxRecDepth 20000 in
set_option maxHeartbeats 4000000 in
theorem rpack11_c {l : List Msg} {p : Option Addr} {cp now N' : Nat} (h : RfcAt w N F A K c) (hm : MsgsAt w N' p l) (hN' : N' ≤ w.heap.size) (hN : N ≤ w.heap.size) (hok : Msok l) (hll : l.length ≤ 30) (hnow : now < 4294967296) (hsl : c.sent.length < 64) (hK : K ≤ 100000) :
  callV Tryz.prog 11 [.pointer (some ⟨A, 0, none⟩), .slice p l.length cp, .int .u32 now] w fun v w' =>
   v = .tuple #[.string (strOfNums (packC c l now).1.1), .int .i64 (packC c l now).1.2] ∧ RfcAt w' N (FNew F w w') A K (packC c l now).2 ∧ Fm F w w' := by
 have h0 := h
 obtain ⟨D, V, wv, sv, nv, xs, ys, hB, hW, hS, hwx, hsy⟩ := h
 obtain ⟨d, hd⟩ : ∃ d, d = packDg c l := ⟨_, rfl⟩
 have hdok : ∀ l', Dok { d with list := l' } := by
  intro l'
  have hw := hB.eq.ok
  have hn := hB.next
  rw [hd]
  refine ⟨hn, ?_, ?_⟩
  ·show (if c.win.any = true then c.win.last else 0) < 65536
   split
   ·exact hw.last
   ·omega
  ·show (if c.win.any = true then c.win.bits else 0) < 4294967296
   split
   ·exact hw.bits
   ·omega
 have hdl : d.list = l := by rw [hd]; rfl
 have hAw := hB.lt A hB.fA
 refine vc11 ⟨A, 0, none⟩ p l.length cp now w _ ?_
 have hboxk : ∀ W, Fm none' w.drew W → W.heap[A]? = some (.cells (refCs c D wv sv) 63 (0, 0)) := fun W hf => hf.keep (w := w.drew) hB.box id
 simp only [addr_add, Nat.zero_add]
 refine ⟨fun u W => ∃ D1 q e, u 8 = .pointer (some ⟨D1, 0, none⟩) ∧ w.heap.size ≤ D1 ∧ W.heap[D1]? = some (.cells #[.int .u16 c.next, .bool c.win.any, .int .u16 0, .int .u32 0, .slice q l.length e] 102 (0, 0)) ∧ RowMsgs W w.heap.size w.heap.size (.slice q l.length e) l ∧ Fm none' w.drew W, ?_, ?_⟩
 ·-- the head
  refine ⟨fun W => Fm none' w.drew W, Fm.refl _ _, ?_⟩
  have k0 : ∀ W, Fm none' w.drew W → W.cell? ⟨A, 0, none⟩ = some (.int .u16 c.next) := fun W hf => cellOf (hboxk W hf) rfl
  have k5 : ∀ W, Fm none' w.drew W → W.cell? ⟨A, 5, none⟩ = some (.bool c.win.any) := fun W hf => cellOf (hboxk W hf) rfl
  simp only [vq, eqV, nilV]
  refine rd_of (k0 w.drew (Fm.refl _ _)) ⟨fun W hf => rd_of (k0 W hf) rfl, ?_⟩
  simp only [vq, eqV, nilV]
  refine rd_of (k5 w.drew (Fm.refl _ _)) ⟨fun W hf => rd_of (k5 W hf) rfl, ?_⟩
  simp only [vq, eqV, nilV]
  have app : ∀ (W : World) (o : Option Addr) (c0 : Nat) (KK : Value → World → Prop), W.ownsRow w.heap.size 41 23 (.slice o 0 c0) 0 [] → Fm none' w.drew W →
    (∀ p2 c2 W', RowMsgs W' w.heap.size w.heap.size (.slice p2 l.length c2) l → Fm none' w.drew W' → Fm (fun i => (Value.slice o 0 c0).ownBlock = some i) W W' → KK (.slice p2 l.length c2) W') → runs Tryz.prog (Builtin.append_ #[45, 45] 45 #[.slice o 0 c0, .slice p l.length cp]) W KK := by
   intro W o c0 KK ho hF k
   have hsz : w.heap.size ≤ W.heap.size := hF.size
   refine app_rows (base := w.heap.size) rfl ho ((hm.keep ((Fm.drew w).trans hF) fun _ _ => id).up hN') (Nat.le_refl _) hsz (by omega) fun v W2 hr2 hf2 => ?_
   obtain ⟨p2, c2, rfl⟩ := rowSl hr2
   exact k p2 c2 W2 hr2 (hF.trans' hf2 fun i hi e => by have := (own_block ho e).1; have : w.drew.heap.size = w.heap.size := rfl; omega) hf2
  have fin : ∀ (D1 : Nat) (W : World) (q : Option Addr) (e : Nat), w.heap.size ≤ D1 → W.heap[D1]? = some (.cells #[.int .u16 0, .bool false, .int .u16 0, .int .u32 0, .slice none 0 0] 102 (0, 0)) → RowMsgs W w.heap.size w.heap.size (.slice q l.length e) l → Fm none' w.drew W →
    stC W ⟨D1, 0, none⟩ [.int .u16 c.next, .bool c.win.any, .int .u16 0, .int .u32 0, .slice q l.length e] fun W' => ∃ D' q' e', alist [(8, .pointer (some ⟨D1, 0, none⟩))] 8 = .pointer (some ⟨D', 0, none⟩) ∧ w.heap.size ≤ D' ∧ W'.heap[D']? = some (.cells #[.int .u16 c.next, .bool c.win.any, .int .u16 0, .int .u32 0, .slice q' l.length e'] 102 (0, 0)) ∧ RowMsgs W' w.heap.size w.heap.size (.slice q' l.length e') l ∧ Fm none' w.drew W' := by
   intro D1 W q e hD hb hr hf
   refine stC_all hb rfl (fun v hv => by simp at hv; rcases hv with rfl | rfl | rfl | rfl | rfl <;> rfl) fun W' hb' hf' => ?_
   have h00 : w.drew.heap.size = w.heap.size := rfl
   refine ⟨D1, q, e, rfl, hD, hb', hr.keepS hf' (fun i hi => ?_) (fun i hi => by omega), hf.trans' hf' fun i hi e => by omega⟩
   obtain ⟨_, _, C, hC⟩ := hr.blk hi
   rintro rfl
   rw [hb] at hC; cases hC
  refine ⟨?_, ?_⟩
  ·refine VC.build_noneS (by rw [row45]) row41 fun w1 hs hlt1 hf1 => ?_
   simp only [vq, eqV, nilV]
   refine ⟨hf1, ?_, ?_⟩
   ·refine app w1 _ _ _ (own_base hs (Nat.le_refl _)) hf1 fun p2 c2 w2 hr2 hF2 hf2 => ?_
    simp only [vq, eqV, nilV]
    refine ⟨hF2, ?_⟩
    refine allocC_of fun w3 hb3 hs3 hf3 => ?_
    exact ⟨hF2.trans hf3, fin _ w3 p2 c2 hF2.size hb3 (hr2.keep hf3 fun _ _ => id) (hF2.trans hf3)⟩
   ·refine allocC_of fun w3 hb3 hs3 hf3 => ?_
    have hF3 := hf1.trans hf3
    refine ⟨hF3, ?_⟩
    refine app w3 _ _ _ (hf3.owns (own_base hs (Nat.le_refl _)) fun _ _ => id) hF3 fun p2 c2 w2 hr2 hF2 hf2 => ?_
    simp only [vq, eqV, nilV]
    refine ⟨hF2, fin _ w2 p2 c2 hf1.size (hf2.keep hb3 fun e => ?_) hr2 hF2⟩
    have := lt_of_blk (own_block hs e).2.choose_spec; omega
  ·refine allocC_of fun w3 hb3 hs3 hf3 => ?_
   refine ⟨hf3, ?_⟩
   refine VC.build_noneS (by rw [row45]) row41 fun w1 hs hlt1 hf1 => ?_
   simp only [vq, eqV, nilV]
   have hF1 := hf3.trans hf1
   refine ⟨hF1, ?_⟩
   refine app w1 _ _ _ (own_base hs hf3.size) hF1 fun p2 c2 w2 hr2 hF2 hf2 => ?_
   simp only [vq, eqV, nilV]
   refine ⟨hF2, fin _ w2 p2 c2 (Nat.le_refl _) (hf2.keep (hf1.keep hb3 id) fun e => ?_) hr2 hF2⟩
   have := (own_block hs e).1
   have : w.drew.heap.size = w.heap.size := rfl
   omega
 rintro u w68 ⟨D1, q0, e0, h8, hD1, hb68, hr68, hf68⟩
 change u 8 = _ at h8
 have hF68 : Fm none' w w68 := (Fm.drew w).trans hf68
 simp only [h8, vq, eqV, nilV]
 have hsz68 := hF68.size
 refine ⟨fun _ W => DrAt W w.heap.size D1 d q0 e0 ∧ Fm none' w W, ?_, ?_⟩
 ·-- the acknowledgement
  have k5 : w68.cell? ⟨A, 5, none⟩ = some (.bool c.win.any) := cellOf (hboxk _ hf68) rfl
  have k4 : w68.cell? ⟨A, 4, none⟩ = some (.pointer (some ⟨D, 0, none⟩)) := cellOf (hboxk _ hf68) rfl
  simp only [k5, k4, vq, eqV, nilV]
  cases ha : c.win.any with
  | false =>
   simp only [vq, eqV, nilV]
   refine ⟨⟨?_, ?_⟩, hF68⟩
   ·have e1 : dgCs d q0 e0 = #[.int .u16 c.next, .bool c.win.any, .int .u16 0, .int .u32 0, .slice q0 l.length e0] := by
     unfold dgCs
     rw [hd]
     simp only [packDg, ha]
     rfl
    rw [e1]; exact hb68
   ·rw [hdl]; exact hr68
  | true =>
   simp only [vq, eqV, nilV]
   have hwin68 : RWinAt w68 F D V nv := hB.win.keep hF68 (fun _ _ _ _ _ _ => id) fun _ => id
   refine (ack28_c hwin68 hB.eq ha (Nat.le_trans hB.few (by omega))).mono ?_
   rintro _ w68 ⟨rfl, rfl⟩
   simp only [vq, eqV, nilV, List.getElem?_toArray, List.getElem?_cons_zero, List.getElem?_cons_succ]
   simp only [addr_add, Nat.zero_add]
   refine stC_one hb68 (by simp) rfl fun w84 hb84 hf84 => ?_
   refine stC_one hb84 (by simp) rfl fun w86 hb86 hf86 => ?_
   have hf : Fm (fun i => i = D1) w68 w86 := hf84.trans hf86
   refine ⟨⟨?_, ?_⟩, hF68.trans' hf fun i hi e => by omega⟩
   ·have e1 : dgCs d q0 e0 = #[.int .u16 c.next, .bool c.win.any, .int .u16 c.win.last, .int .u32 c.win.bits, .slice q0 l.length e0] := by
     unfold dgCs
     rw [hd]
     simp only [packDg, ha]
     rfl
    rw [e1]; exact hb86
   ·rw [hdl]
    refine hr68.keepS hf (fun i hi => ?_) fun i hi => by omega
    obtain ⟨_, _, C, hC⟩ := hr68.blk hi
    rintro rfl
    rw [hb68] at hC; cases hC
 rintro u2 w89 ⟨hdg89, hF89⟩
 refine rd_of (cells_all hdg89.blk rfl) ?_
 -- Encode of the datagram as it is built up
 have enc : ∀ (W : World) (l' : List Msg) (q : Option Addr) (e : Nat), DrAt W w.heap.size D1 { d with list := l' } q e → Fm none' w W → Msok l' → l'.length ≤ 100 → callV Tryz.prog 29 [.agg (dgCs { d with list := l' } q e).toList.toArray] W fun v w' => v = .tuple #[.string (strOfNums (encD { d with list := l' }).1), .int .i64 (encD { d with list := l' }).2] ∧ Fm none' W w' := by
  intro W l' q e hdg hF hok' hlen
  exact encode11_c (c := e) (hdok l') (RowMsgs.at (p := q) hdg.rows hF.size).2 hok' hlen
 have hdself : ({ d with list := l } : Dg) = d := by rw [← hdl]
 have henc0 := enc w89 l q0 e0 (by rw [hdself]; exact hdg89) hF89 hok (by omega)
 rw [hdself] at henc0
 refine henc0.mono ?_
 rintro _ w94 ⟨rfl, hf94⟩
 simp only [vq, eqV, nilV, List.getElem?_toArray, List.getElem?_cons_zero, List.getElem?_cons_succ]
 have hF94 := hF89.trans hf94
 have stay : ∀ w', Fm none' w w' → RfcAt w' N (FNew F w w') A K c := fun w' hf =>
  (h0.keep hf (fun _ _ => id) fun _ _ => id).up (fun i h => .inl h) (fun i hi => hi.elim (fun h => Nat.lt_of_lt_of_le (hB.lt i h) hf.size) (·.2)) fun i hi => hi.elim (hB.hi i) fun h => by omega
 refine br_ndec (fun he => ?_) (fun he => ?_)
 ·have e1 : packC c l now = (([], (encD d).2), c) := by unfold packC; rw [← hd, if_pos he]
  rw [e1]
  exact ⟨rfl, stay w94 hF94, hF94.none⟩
 have he0 : (encD d).2 = 0 := he
 have hbox94 := hF94.keep hB.box id
 have kN : w94.cell? ⟨A, 0, none⟩ = some (.int .u16 c.next) := cellOf hbox94 rfl
 refine rd_of kN ?_
 simp only [vq, eqV, nilV]
 refine allocC_of fun w104 hb104 hs104 hf104 => ?_
 obtain ⟨X, hX⟩ : ∃ X, X = w94.heap.size := ⟨_, rfl⟩
 rw [← hX] at hb104 ⊢
 have hXw : w.heap.size ≤ X := by rw [hX]; exact hF94.size
 refine stC_all hb104 rfl (fun v hv => by simp at hv; rcases hv with rfl | rfl | rfl <;> rfl) fun w105 hb105 hf105 => ?_
 have hf105' : Fm none' w94 w105 := hf104.trans' hf105 fun i hi e => by omega
 have hF105 : Fm none' w w105 := hF94.trans hf105'
 obtain ⟨ms, hms⟩ : ∃ ms, ms = c.wait.map (·.2) := ⟨_, rfl⟩
 have hml : ms.length = c.wait.length := by rw [hms, List.length_map]
 obtain ⟨ids, hids⟩ : ∃ ids, ids = c.wait.map (·.1) := ⟨_, rfl⟩
 have hil : ids.length = c.wait.length := by rw [hids, List.length_map]
 have hxl : xs.length = c.wait.length := by rw [hwx, List.length_map]
 have hmany := hB.many
 have hwrok : ∀ x ∈ c.wait, Rok x.2 := fun x hx => by
  rw [hwx] at hx
  obtain ⟨y, hy, rfl⟩ := List.mem_map.1 hx
  exact hW.rok y hy
 have hokj : ∀ j, Msok (l ++ ms.take j) := fun j => ⟨fun m hm => by
   rcases List.mem_append.1 hm with hm | hm
   ·exact hok.ok m hm
   ·rw [hms] at hm
    obtain ⟨x, hx, rfl⟩ := List.mem_map.1 (List.mem_of_mem_take hm)
    exact (hwrok x hx).ok, fun m hm => by
   rcases List.mem_append.1 hm with hm | hm
   ·exact hok.len m hm
   ·rw [hms] at hm
    obtain ⟨x, hx, rfl⟩ := List.mem_map.1 (List.mem_of_mem_take hm)
    have := (hwrok x hx).len
    omega, by rw [List.length_append, List.length_take]; omega⟩
 obtain ⟨pw, cw, hwv⟩ := wvSl hW
 -- what holds when j messages have found room
 let J : Nat → World → Value → Prop := fun j W vb => ∃ hv, vb = .string (strOfNums (encD { d with list := l ++ ms.take j }).1) ∧ (encD { d with list := l ++ ms.take j }).2 = 0 ∧
  W.heap[X]? = some (.cells #[.int .u16 c.next, .int .u32 now, hv] 106 (0, 0)) ∧ W.ownsRow w.heap.size 3 1 hv j (intsV (ids.take j)) ∧ Fm none' w W
 refine ⟨fun u W => J (fitN d ms) W (u 9), ?_, ?_⟩
 ·refine ⟨fun u W => ∃ (j : Nat) (q : Option Addr) (e : Nat), j ≤ ms.length ∧ u 12 = .int .i64 j ∧ J j W (u 9) ∧ DrAt W w.heap.size D1 { d with list := l ++ ms.take j } q e ∧ fitN d ms = j + fitN { d with list := d.list ++ ms.take j } (ms.drop j), fun u _ => ms.length - (intOf (u 12)).toNat, ?_, ?_⟩
  ·refine ⟨0, q0, e0, by omega, rfl, ⟨.slice none 0 0, ?_, ?_, hb105, World.ownsRow_nil _ _ _ _, hF105⟩, ?_, ?_⟩
   ·simp only [List.take_zero, List.append_nil, hdself]; rfl
   ·simp only [List.take_zero, List.append_nil, hdself]; exact he0
   ·simp only [List.take_zero, List.append_nil, hdself]; exact (hdg89.keep hf94).keep hf105'
   ·simp
  rintro u w110 ⟨j, q, e, hj, h12, hJ, hdg, hfit⟩
  change u 12 = _ at h12
  obtain ⟨hv, h9, hej, hbX, hoh, hFj⟩ := id hJ
  change u 9 = _ at h9
  have hboxj := hFj.keep hB.box id
  have kw : w110.cell? ⟨A, 2, none⟩ = some (.slice pw xs.length cw) := by rw [← hwv]; exact cellOf hboxj rfl
  simp only [h12, kw, vq, eqV, nilV]
  refine br_dec (fun hlt => ?_) (fun hge => ?_)
  ·obtain ⟨x, hx⟩ : ∃ x, xs[j]? = some x := ⟨xs[j]'(by omega), by simp⟩
   obtain ⟨⟨idx, m⟩, ⟨qx, cqx⟩⟩ := x
   have hwj : c.wait[j]? = some (idx, m) := by rw [hwx, List.getElem?_map, hx]; rfl
   have hmj : ms[j]? = some m := by rw [hms, List.getElem?_map, hwj]; rfl
   have hij : ids[j]? = some idx := by rw [hids, List.getElem?_map, hwj]; rfl
   have hWj : RWt w110 N F wv xs := hW.keep hFj (fun _ _ _ _ _ => id) (fun _ _ => id) fun _ => id
   obtain ⟨g, cg, hwv2, hgo, hgc⟩ := own_cellsAt rwC_len hWj.own hx
   rw [hwv2] at hwv
   simp only [Value.slice.injEq] at hwv
   obtain ⟨rfl, -, rfl⟩ := hwv
   have kid : w110.cell? ⟨g, j * 24, none⟩ = some (.int .i64 (idx : Nat)) := by
    have := cells_head hgc
    rwa [addr_add, Nat.add_zero] at this
   have kms : cellsAt w110 ⟨g, j * 24 + 1, none⟩ 23 = some (msgC m qx cqx) := by
    have := cellsAt_of (w := w110) (a := ⟨g, j * 24 + 1, none⟩) (l := msgC m qx cqx) fun i v hi => by
     have h1 := (cellsAt_length hgc).2 (i + 1) v (by exact hi)
     rw [addr_add] at h1 ⊢
     rw [show j * 24 + 1 + i = j * 24 + (i + 1) by omega]; exact h1
    exact this
   obtain ⟨L, hL⟩ : ∃ L, L = l ++ ms.take j := ⟨_, rfl⟩
   have hLl : L.length = l.length + j := by rw [hL, List.length_append, List.length_take]; omega
   have hLn : L ++ [m] = l ++ ms.take (j + 1) := by rw [hL, List.take_add_one, hmj, List.append_assoc]; rfl
   rw [← hL] at hdg
   obtain ⟨hbD, hrD⟩ := hdg
   have hbD' : w110.heap[D1]? = some (.cells #[.int .u16 d.seq, .bool d.any, .int .u16 d.last, .int .u32 d.bits, .slice q L.length e] 102 (0, 0)) := hbD
   have hrD' : RowMsgs w110 w.heap.size w.heap.size (.slice q L.length e) L := hrD
   have kD : ∀ W, Fm none' w110.drew W → W.cell? ⟨D1, 4, none⟩ = some (.slice q L.length e) := fun W hf => cellOf (hf.keep (w := w110.drew) hbD' id) rfl
   have kw' : ∀ W, Fm none' w110.drew W → W.cell? ⟨A, 2, none⟩ = some (.slice (some ⟨g, 0, none⟩) xs.length cg) := fun W hf => hf.cell (w := w110.drew) kw id
   have km' : ∀ W, Fm none' w110.drew W → cellsAt W ⟨g, j * 24 + 1, none⟩ 23 = some (msgC m qx cqx) := fun W hf => hf.cells (w := w110.drew) id (by rw [cells_drew]; exact kms)
   refine ⟨fun W => Fm none' w110.drew W, Fm.refl _ _, ?_⟩
   refine rd_of (kD _ (Fm.refl _ _)) ⟨fun W hf => rd_of (kD W hf) rfl, ?_⟩
   simp only [vq, eqV, nilV]
   refine rd_of (kw' _ (Fm.refl _ _)) ⟨fun W hf => rd_of (kw' W hf) rfl, ?_⟩
   simp only [addr_add, Nat.zero_add, Int.toNat_natCast, vq, eqV, nilV]
   refine ⟨by omega, fun _ _ => by omega, ?_⟩
   refine rd_of (km' _ (Fm.refl _ _)) ⟨fun W hf => rd_of (km' W hf) rfl, ?_⟩
   have hbyx := hWj.byt _ (List.mem_of_getElem? hx)
   have hsz110 := hFj.size
   refine ord3 (w := w110.drew) (B := w.heap.size) (fun W' hf => hf) (hrD'.keep (Fm.drew w110) fun _ _ => id) hsz110 (by omega) (hbyx.1.keep (Fm.drew w110) fun _ _ => id) (fun ad e1 hne => Nat.lt_of_lt_of_le (hbyx.2 ad e1 hne) hN) fun W5 p5 c5 hr5 hf5 => ?_
   try simp only [addr_add, Nat.zero_add, vq, eqV, nilV]
   have h00 : w110.drew.heap.size = w110.heap.size := rfl
   have hf5' : Fm none' w110 W5 := (Fm.drew w110).trans hf5
   have hbD5 := hf5'.keep hbD' id
   refine stC_one hbD5 (by simp) rfl fun W6 hb6 hf6 => ?_
   have hlen1 : (L ++ [m]).length = L.length + 1 := by simp
   have hbD6 : W6.heap[D1]? = some (.cells (dgCs { d with list := L ++ [m] } p5 c5) 102 (0, 0)) := by
    have e1 : dgCs { d with list := L ++ [m] } p5 c5 = #[.int .u16 d.seq, .bool d.any, .int .u16 d.last, .int .u32 d.bits, .slice p5 (L.length + 1) c5] := by
     unfold dgCs
     simp only [List.length_append, List.length_cons, List.length_nil, Nat.zero_add]
    rw [e1]; exact hb6
   refine rd_of (cells_all hbD6 rfl) ?_
   have hF6 : Fm none' w W6 := (hFj.trans hf5').trans' hf6 fun i hi h => by omega
   have hfD : Fm (fun i => i = D1) w110 W6 := hf5'.none.trans hf6
   have hdg6 : DrAt W6 w.heap.size D1 { d with list := L ++ [m] } p5 c5 := by
    refine ⟨hbD6, ?_⟩
    show RowMsgs W6 w.heap.size w.heap.size (.slice p5 (L ++ [m]).length c5) (L ++ [m])
    rw [hlen1]
    refine (hr5.base (b := w.heap.size) hsz110).keepS hf6 (fun i hi => ?_) fun i hi => by omega
    obtain ⟨_, _, C, hC⟩ := hr5.blk hi
    rintro rfl
    rw [hbD5] at hC; cases hC
   have hLok : Msok (L ++ [m]) := by rw [hLn]; exact hokj _
   refine (enc W6 (L ++ [m]) p5 c5 hdg6 hF6 hLok (by rw [hlen1]; omega)).mono ?_
   rintro _ W7 ⟨rfl, hf7⟩
   simp only [vq, eqV, nilV, List.getElem?_toArray, List.getElem?_cons_zero, List.getElem?_cons_succ]
   have hfall : Fm (fun i => i = D1) w110 W7 := hfD.trans hf7.none
   have hF7 : Fm none' w W7 := hF6.trans hf7
   have hXD : X ≠ D1 := fun h => by
    rw [h, hbD'] at hbX
    injection hbX with hbX
    injection hbX with h1 h2 h3
    exact absurd h2 (by decide)
   have hbX7 := hfall.keep hbX hXD
   have hoh7 := hfall.owns hoh fun i hi h => by
    obtain ⟨_, cur, hcur⟩ := own_block hoh hi
    rw [h, hbD'] at hcur; cases hcur
   have hdL : d.list ++ ms.take j = L := by rw [hdl, hL]
   refine br_ndec (fun hne => ?_) (fun hz => ?_)
   ·have hstop := fitN_stop d ms j hfit m hmj (by rw [hdL]; exact hne)
    rw [hstop]
    exact ⟨hv, h9, hej, hbX7, hoh7, hF7⟩
   have hsplit := fitN_split d ms j hfit m hmj (by rw [hdL]; exact hz)
   obtain ⟨ph, ch, rfl, -⟩ := own_read hoh7
   have hphb : ∀ i, (Value.slice ph j ch).ownBlock = some i → w.heap.size ≤ i ∧ ∃ C, W7.heap[i]? = some (.cells C 3 (0, 0)) := fun i hi => own_block hoh7 hi
   have hbox7 := hF7.keep hB.box id
   have kX : W7.drew.cell? ⟨X, 2, none⟩ = some (.slice ph j ch) := cellOf (w := W7.drew) hbX7 rfl
   have kw7 : W7.drew.cell? ⟨A, 2, none⟩ = some (.slice (some ⟨g, 0, none⟩) xs.length cg) := by rw [cell_drew]; exact hfall.cell kw (by show ¬ A = D1; omega)
   have hgF := hB.lt g (hW.fw g hgo)
   have kid7 : W7.drew.cell? ⟨g, j * 24, none⟩ = some (.int .i64 (idx : Nat)) := by rw [cell_drew]; exact hfall.cell kid (by show ¬ g = D1; omega)
   have hphX : ¬ (Value.slice ph j ch).ownBlock = some X := fun h => by
    obtain ⟨_, C, hC⟩ := hphb X h
    rw [hbX7] at hC; cases hC
   refine ⟨fun W => Fm (fun i => (Value.slice ph j ch).ownBlock = some i) W7.drew W, Fm.refl _ _, ?_⟩
   refine rd_of kX ⟨fun W hf => rd_of (hf.cell kX hphX) rfl, ?_⟩
   simp only [vq, eqV, nilV]
   refine rd_of kw7 ⟨fun W hf => rd_of (hf.cell kw7 fun h => by have := (hphb A h).1; omega) rfl, ?_⟩
   simp only [addr_add, Nat.zero_add, Int.toNat_natCast, vq, eqV, nilV]
   refine ⟨by omega, fun _ _ => by omega, ?_⟩
   refine rd_of kid7 ⟨fun W hf => rd_of (hf.cell kid7 fun h => by have := (hphb g h).1; omega) rfl, ?_⟩
   simp only [vq, eqV, nilV]
   refine build_1 (by rw [row104]) row3 rfl rfl fun W8 hb8 hs8 hf8 => ?_
   simp only [vq, eqV, nilV]
   refine ⟨hf8.none, ?_⟩
   refine append_r (ys := [.int .i64 (idx : Nat)]) (by rw [row104]) row3 rfl (((Fm.drew W7).trans hf8).owns hoh7 fun _ _ => id) rfl (by simp [Value.oneCell']) (fun k y hk => ?_) (by have := hF7.size; have := hf8.size; have : W7.drew.heap.size = W7.heap.size := rfl; omega) (by simp only [maxLen]; omega) (by omega) fun p9 c9 W9 ho9 hf9 hblk9 => ?_
   ·match k, hk with
    | 0, hk =>
     simp at hk; subst hk
     exact ⟨_, rfl, by rw [addr_add]; exact cellOf hb8 rfl⟩
   simp only [vq, eqV, nilV]
   have hf9' : Fm (fun i => (Value.slice ph j ch).ownBlock = some i) W7 W9 := ((Fm.drew W7).trans hf8).none.trans hf9
   refine ⟨hf8.none.trans hf9, ?_⟩
   have hbX9 := hf9'.keep hbX7 hphX
   refine stC_one hbX9 (by simp) rfl fun W10 hb10 hf10 => ?_
   have hfl : Fm (fun i => (Value.slice ph j ch).ownBlock = some i ∨ i = X) W7 W10 := (hf9'.mono fun i _ h => .inl h).trans (hf10.mono fun i _ h => .inr h)
   have hF10 : Fm none' w W10 := hF7.trans' hfl fun i hi h => by
    rcases h with h | h
    ·have := (hphb i h).1; omega
    ·omega
   rw [show IntKind.i64.wrap ((j : Int) + 1) = ((j + 1 : Nat) : Int) from (w64 (by omega)).trans (by omega)]
   refine ⟨⟨j + 1, p5, c5, by omega, rfl, ⟨.slice p9 (j + 1) c9, ?_, ?_, hb10, ?_, hF10⟩, ?_, hsplit⟩, ?_⟩
   ·rw [← hLn]; rfl
   ·rw [← hLn]; exact hz
   ·have e1 : intsV (ids.take (j + 1)) = intsV (ids.take j) ++ [.int .i64 (idx : Nat)] := by
     rw [List.take_add_one, hij]
     simp [intsV]
    rw [e1]
    refine hf10.owns ho9 fun i hi hiX => ?_
    obtain ⟨_, cur, hcur⟩ := own_block ho9 hi
    rw [hiX, hbX9] at hcur; cases hcur
   ·rw [← hLn]
    have hdg7 := hdg6.keep hf7
    have hno2 : ∀ (i : Nat) (C : Array Value) (t : TypeId), W7.heap[i]? = some (Obj.cells C t (0, 0)) → t ≠ 3 → t ≠ 106 → ¬ ((Value.slice ph j ch).ownBlock = some i ∨ i = X) := by
     rintro i C t hi h1 h2 (h | rfl)
     ·obtain ⟨_, C', hC'⟩ := hphb i h
      rw [hi] at hC'; cases hC'; exact h1 rfl
     ·rw [hbX7] at hi; cases hi; exact h2 rfl
    refine ⟨hfl.keep hdg7.blk (hno2 _ _ _ hdg7.blk (by decide) (by decide)), ?_⟩
    refine hdg7.rows.keepS hfl (fun i hi => ?_) fun i hi h => ?_
    ·obtain ⟨_, _, C, hC⟩ := hdg7.rows.blk hi
     exact hno2 i _ _ hC (by decide) (by decide)
    ·rcases h with h | h
     ·have := (hphb _ h).1; omega
     ·omega
   ·show ms.length - ((j + 1 : Nat) : Int).toNat < ms.length - (j : Int).toNat
    omega
  ·have hjl : j = ms.length := by omega
   have hd0 : fitN d ms = j := by rw [hfit, hjl, List.drop_length]; rfl
   rw [hd0]
   exact hJ
 rintro u3 w395 ⟨hv, h9, hez, hbX, hoh, hF395⟩
 change u3 9 = _ at h9
 obtain ⟨k, hk⟩ : ∃ k, k = fitN d ms := ⟨_, rfl⟩
 rw [← hk] at h9 hez hoh
 have hkl : k ≤ ms.length := by rw [hk]; exact fitN_le d ms
 obtain ⟨zs, hzs⟩ : ∃ zs, zs = (encD { d with list := l ++ ms.take k }).1 := ⟨_, rfl⟩
 rw [← hzs] at h9
 have hpack : packC c l now = ((zs, 0), { c with sent := c.sent ++ [⟨c.next, now, ids.take k⟩], next := (c.next + 1) % 65536 }) := by
  unfold packC
  rw [← hd, if_neg (by simpa using he0), ← hms, ← hids, ← hk, ← hzs]
 rw [hpack]
 have hyl : ys.length = c.sent.length := by rw [hsy, List.length_map]
 obtain ⟨ps, cs, hsv⟩ := svSl hS
 have hsvF : ∀ i, sv.ownBlock = some i → i < w.heap.size ∧ ∃ C, w.heap[i]? = some (.cells C 106 (0, 0)) := fun i hi => ⟨hB.lt i (hS.fs i hi), (own_block hS.own hi).2⟩
 have svA : ¬ sv.ownBlock = some A := fun h => by
  obtain ⟨_, C, hC⟩ := hsvF A h
  rw [hB.box] at hC; cases hC
 have svX : ¬ sv.ownBlock = some X := fun h => by have := (hsvF X h).1; omega
 have hbox395 : w395.drew.heap[A]? = some (.cells (refCs c D wv sv) 63 (0, 0)) := hF395.keep hB.box id
 have kS : w395.drew.cell? ⟨A, 3, none⟩ = some (.slice ps ys.length cs) := by rw [← hsv]; exact cellOf hbox395 rfl
 have kX : cellsAt w395.drew ⟨X, 0, none⟩ 3 = some [.int .u16 c.next, .int .u32 now, hv] := cells_all (w := w395.drew) hbX rfl
 have hvone := own_one hoh
 refine ⟨fun _ W => ∃ p' c', W.heap[A]? = some (.cells (refCs c D wv (.slice p' (ys.length + 1) c')) 63 (0, 0)) ∧ W.ownsRow 0 106 3 (.slice p' (ys.length + 1) c') (ys.length + 1) (ys.flatMap rsC ++ [.int .u16 c.next, .int .u32 now, hv]) ∧
  (∀ i, (Value.slice p' (ys.length + 1) c').ownBlock = some i → sv.ownBlock = some i ∨ w.heap.size ≤ i) ∧ Fm (fun i => sv.ownBlock = some i ∨ i = A) w395 W, ?_, ?_⟩
 ·refine ⟨fun W => Fm (fun i => sv.ownBlock = some i) w395.drew W, Fm.refl _ _, ?_⟩
  refine rd_of kS ⟨fun W hf => rd_of (hf.cell kS svA) rfl, ?_⟩
  simp only [vq, eqV, nilV]
  refine rd_of kX ⟨fun W hf => rd_of (hf.cells svX kX) rfl, ?_⟩
  refine build_Sg (by rw [row60]) row106 rfl (by omega) (by omega) rfl fun W1 hb1 hs1 hf1 => ?_
  simp only [vq, eqV, nilV]
  refine ⟨hf1.none, ?_⟩
  have hown1 : W1.ownsRow 0 106 3 (.slice ps ys.length cs) ys.length (ys.flatMap rsC) := by
   rw [← hsv]
   exact (hF395.trans ((Fm.drew w395).trans hf1)).owns hS.own fun _ _ => id
  refine append_rS (m := 1) (ys := [.int .u16 c.next, .int .u32 now, hv]) (by rw [row60]) row106 rfl (by omega) hown1 rfl (fun v hv' => ?_) (fun j y hy => ?_) (Nat.zero_le _) (by simp only [maxLen]; omega) (by omega) fun p' c' W2 ho2 hf2 hblk2 => ?_
  ·simp at hv'
   rcases hv' with rfl | rfl | rfl
   ·rfl
   ·rfl
   ·exact hvone
  ·exact ⟨_, _, rfl, by rw [Nat.zero_add]; exact cellOf hb1 (by simpa using hy)⟩
  simp only [vq, eqV, nilV]
  rw [← hsv] at hf2 hblk2
  have hf2' : Fm (fun i => sv.ownBlock = some i) w395.drew W2 := hf1.none.trans hf2
  refine ⟨hf2', ?_⟩
  have hbox2 := hf2'.keep hbox395 svA
  refine stC_one hbox2 (by simp [refCs]) rfl fun W3 hb3 hf3 => ?_
  refine ⟨p', c', hb3, hf3.owns ho2 fun i hi h => ?_, fun i hi => ?_, (((Fm.drew w395).none.trans hf2').mono fun i _ h => .inl h).trans (hf3.mono fun i _ h => .inr h)⟩
  ·obtain ⟨_, cur, hcur⟩ := own_block ho2 hi
   rw [h, hbox2] at hcur; cases hcur
  ·rcases hblk2 with h | h
   ·rw [h] at hi; exact .inl hi
   ·rw [h] at hi; cases hi
    have h1 := hF395.size
    have h2 : w395.drew.heap.size = w395.heap.size := rfl
    have h3 := hf1.size
    exact .inr (by omega)
 rintro u4 w431 ⟨p', c', hb431, ho431, hblk, hf431⟩
 refine ⟨fun _ W => W = w431, ?_, ?_⟩
 ·have k3 : w431.cell? ⟨A, 3, none⟩ = some (.slice p' (ys.length + 1) c') := cellOf hb431 rfl
  simp only [k3, vq, eqV, nilV]
  refine br_dec (fun h => ?_) (fun _ => trivial)
  omega
 rintro u5 w431 rfl
 have kn : w431.cell? ⟨A, 0, none⟩ = some (.int .u16 c.next) := cellOf hb431 rfl
 simp only [kn, h9, vq, eqV, nilV]
 have enx : IntKind.u16.wrap ((c.next : Int) + 1) = (((c.next + 1) % 65536 : Nat) : Int) := w16m (c.next + 1)
 rw [enx]
 refine stC_one hb431 (by simp [refCs]) rfl fun w464 hb464 hf464 => ?_
 have hfS : Fm (fun i => sv.ownBlock = some i ∨ i = A) w395 w464 := hf431.trans (hf464.mono fun i _ h => .inr h)
 have hall : Fm (fun i => sv.ownBlock = some i ∨ i = A) w w464 := hF395.none.trans hfS
 have hFall : Fm F w w464 := hall.mono fun i _ h => h.elim (hS.fs i) fun e => e ▸ hB.fA
 have hsz := hFall.size
 have hno : ∀ i C t, w.heap[i]? = some (.cells C t (0, 0)) → t ≠ 106 → t ≠ 63 → ¬ (sv.ownBlock = some i ∨ i = A) := by
  rintro i C t hi h1 h2 (h | rfl)
  ·obtain ⟨_, cur, hc⟩ := hsvF i h
   rw [hi] at hc; cases hc; exact h1 rfl
  ·rw [hB.box] at hi; cases hi; exact h2 rfl
 have hnoN : ∀ i, i < N → ¬ (sv.ownBlock = some i ∨ i = A) := by
  rintro i hi (h | rfl)
  ·have := hB.hi i (hS.fs i h); omega
  ·have := hB.hi i hB.fA; omega
 obtain ⟨F', hF'⟩ : ∃ F', F' = FNew F w w464 := ⟨_, rfl⟩
 have hsub : ∀ i, F i → F' i := fun i hi => by rw [hF']; exact .inl hi
 rw [← hF']
 have hbox : RefBox w464 N F' A D K { c with sent := c.sent ++ [⟨c.next, now, ids.take k⟩], next := (c.next + 1) % 65536 } V wv (.slice p' (ys.length + 1) c') nv :=
  { box := hb464, fA := hsub A hB.fA, lt := fun i hi => by rw [hF'] at hi; exact hi.elim (fun h => Nat.lt_of_lt_of_le (hB.lt i h) hsz) (·.2), hi := fun i hi => by rw [hF'] at hi; exact hi.elim (hB.hi i) fun h => by omega, win := hB.win.keep hall (fun i C t hi _ ht => hno i C t hi (by rcases ht with rfl | rfl <;> decide) (by rcases ht with rfl | rfl <;> decide)) hsub, eq := hB.eq, next := Nat.mod_lt _ (by omega), heard := hB.heard, rtt := hB.rtt, few := hB.few, pushed := hB.pushed, many := hB.many }
 refine ⟨⟨D, V, wv, .slice p' (ys.length + 1) c', nv, xs, ys ++ [(⟨c.next, now, ids.take k⟩, hv)], hbox, hW.keep hall (fun i C hi _ _ => hno i C _ hi (by decide) (by decide)) hnoN hsub, ⟨?_, ?_, ?_⟩, hwx, ?_⟩, hFall⟩
 ·have e1 : (ys ++ [((⟨c.next, now, ids.take k⟩ : Ent), hv)]).flatMap rsC = ys.flatMap rsC ++ [.int .u16 c.next, .int .u32 now, hv] := by
   rw [List.flatMap_append]; simp [rsC]
  rw [List.length_append, e1]
  refine hf464.owns ho431 fun i hi h => ?_
  obtain ⟨_, cur, hcur⟩ := own_block ho431 hi
  rw [h, hb431] at hcur; cases hcur
 ·intro i hi
  rcases hblk i hi with h | h
  ·exact hsub i (hS.fs i h)
  ·obtain ⟨_, cur, hcur⟩ := own_block ho431 hi
   have h1 := lt_of_blk hcur
   have h2 := hf464.size
   rw [hF']
   exact .inr ⟨h, by omega⟩
 ·intro y hyy
  rcases List.mem_append.1 hyy with hyy | hyy
  ·exact (hS.has y hyy).keep hall (fun i C hi _ => hno i C _ hi (by decide) (by decide)) hsub
  ·obtain rfl : y = (⟨c.next, now, ids.take k⟩, hv) := by simpa using hyy
   have hkk : (ids.take k).length = k := by rw [List.length_take]; omega
   refine ⟨?_, fun i hi => ?_, hB.next, hnow, by show (ids.take k).length ≤ 64; omega⟩
   ·show w464.ownsRow 0 3 1 hv (ids.take k).length (intsV (ids.take k))
    rw [hkk]
    refine own_base (hfS.owns hoh fun i hi h => ?_) (Nat.zero_le _)
    obtain ⟨h0, cur, hcur⟩ := own_block hoh hi
    rcases h with h | h
    ·have := (hsvF i h).1; omega
    ·omega
   ·obtain ⟨h0, cur, hcur⟩ := own_block hoh hi
    have h1 := lt_of_blk hcur
    have h2 := hfS.size
    rw [hF']
    exact .inr ⟨h0, by omega⟩
 ·show c.sent ++ [_] = _
  rw [hsy, List.map_append]; rfl
end
end Go.Proofs.YtipikchkbmgloaaGreatDoor
namespace Go.Proofs.YtipikchkbmgloaaGreatDoor
set_option linter.unusedSimpArgs false
set_option linter.unusedVariables false
open Go VC
theorem vc3 (ap : Option Addr) (an : Nat) (ac : Nat) (w : World) (R : Value → World → Prop)
 (h : callV Tryz.prog (4 : Nat) [] w fun v0 w1 => isB v0 fun t2 => callV Tryz.prog (5 : Nat) [] w1 fun v3 w4 => isP v3 fun o5 => callV Tryz.prog (5 : Nat) [] w4 fun v6 w7 => isP v6 fun o8 => runs Tryz.prog (Instr.buildSlice (26 : Nat) (2 : Nat) #[((0 : Nat), Value.pointer o5), ((1 : Nat), Value.pointer o8)]) w7 fun v9 w10 => isSl v9 fun o11 n12 n13 => callV Tryz.prog (6 : Nat) [] w10 fun v14 w15 => isP v14 fun o16 => callV Tryz.prog (6 : Nat) [] w15 fun v17 w18 => isP v17 fun o19 => runs Tryz.prog (Instr.buildSlice (29 : Nat) (2 : Nat) #[((0 : Nat), Value.pointer o16), ((1 : Nat), Value.pointer o19)]) w18 fun v20 w21 => isSl v20 fun o22 n23 n24 => cutC (fun u25 => rd o11 fun a26 => ((0 : Int) ≤ (0 : Int) ∧ (0 : Int) < (↑n12 : Int)) ∧ rd (World.cell? w21 a26) fun v27 => isP v27 fun o28 => br (Option.isNone o28) (R (Value.bool false) w21) (rd o11 fun a29 => ((0 : Int) ≤ (1 : Int) ∧ (1 : Int) < (↑n12 : Int)) ∧ rd (World.cell? w21 (Addr.add a29 (1 : Nat))) fun v30 => isP v30 fun o31 => br (Option.isNone o31) (R (Value.bool false) w21) (u25 (alist []) w21))) fun u32 => ∀ (u33 : Nat → Value) (w34 : World), u32 (alist []) w34 → runs Tryz.prog (Instr.buildSlice (30 : Nat) (2 : Nat) #[((0 : Nat), Value.slice none (0 : Nat) (0 : Nat)), ((1 : Nat), Value.slice none (0 : Nat) (0 : Nat))]) w34 fun v36 w37 => isSl v36 fun o38 n39 n40 => loopC (alist [((7 : Nat), Value.int IntKind.u32 (0 : Int)), ((8 : Nat), Value.int IntKind.i64 (0 : Int))]) w37 fun u41 u42 => ∀ (u43 : Nat → Value) (w44 : World), u41 (alist [((7 : Nat), u43 (7 : Nat)), ((8 : Nat), u43 (8 : Nat))]) w44 → isK IntKind.i64 (u43 (8 : Nat)) fun i46 => br (decide (i46 < (↑an : Int))) (isK IntKind.i64 (u43 (8 : Nat)) fun i47 => br (decide (i47 < (100 : Int))) (isK IntKind.i64 (u43 (8 : Nat)) fun i48 => isK IntKind.i64 (u43 (8 : Nat)) fun i49 => rd ap fun a50 => ((0 : Int) ≤ i49 ∧ i49 < (↑an : Int)) ∧ rd (cellsAt w44 (Addr.add a50 (Int.toNat i49 * (27 : Nat))) (27 : Nat)) fun l51 => allocC w44 (Obj.cells #[Value.int IntKind.i64 (0 : Int), Value.int IntKind.i64 (0 : Int), Value.int IntKind.i64 (0 : Int), Value.int IntKind.u16 (0 : Int), Value.int IntKind.u16 (0 : Int), Value.int IntKind.u8 (0 : Int), Value.int IntKind.i8 (0 : Int), Value.int IntKind.i8 (0 : Int), Value.int IntKind.i64 (0 : Int), Value.int IntKind.u16 (0 : Int), Value.int IntKind.i64 (0 : Int), Value.int IntKind.i64 (0 : Int), Value.int IntKind.i64 (0 : Int), Value.int IntKind.i64 (0 : Int), Value.int IntKind.i64 (0 : Int), Value.int IntKind.i64 (0 : Int), Value.int IntKind.i64 (0 : Int), Value.int IntKind.i64 (0 : Int), Value.int IntKind.i64 (0 : Int), Value.int IntKind.i64 (0 : Int), Value.int IntKind.i64 (0 : Int), Value.int IntKind.i64 (0 : Int), Value.int IntKind.u32 (0 : Int), Value.int IntKind.u32 (0 : Int), Value.slice none (0 : Nat) (0 : Nat), Value.int IntKind.u32 (0 : Int), Value.slice none (0 : Nat) (0 : Nat)] (43 : Nat)) fun n52 w53 => rd (gd (List.length l51 == (27 : Nat))) fun _x => stC w53 { block := n52, off := (0 : Nat) : Addr } l51 fun w54 => isK IntKind.u32 (u43 (7 : Nat)) fun i55 => rd (World.cell? w54 { block := n52, off := (25 : Nat) : Addr }) fun v56 => isK IntKind.u32 v56 fun i57 => rd (World.cell? w54 { block := n52, off := (24 : Nat) : Addr }) fun v58 => isSl v58 fun o59 n60 n61 => rd (World.cell? w54 { block := n52, off := (24 : Nat) : Addr }) fun v62 => isSl v62 fun o63 n64 n65 => runs Tryz.prog (Instr.sliceAt (39 : Nat) (Value.slice o59 n60 n61) none (some (Value.int IntKind.i64 (min (↑n64 : Int) (1500 : Int)))) none) w54 fun v66 w67 => isSl v66 fun o68 n69 n70 => stC w67 { block := n52, off := (24 : Nat) : Addr } [Value.slice o68 n69 n70] fun w71 => cutC (fun u72 => u72 (alist [((12 : Nat), Value.int IntKind.i64 (-1 : Int))]) w71) fun u73 => ∀ (u74 : Nat → Value) (w75 : World), u73 (alist [((12 : Nat), u74 (12 : Nat))]) w75 → cutC (fun u77 => rd (World.cell? w75 { block := n52, off := (0 : Nat) : Addr }) fun v78 => isK IntKind.i64 v78 fun i79 => br (decide (i79 = (0 : Int))) (heldC (World.drew w75) fun u80 => (∀ (w81 : World), u80 w81 → Value.slice o11 n12 n13 = Value.slice o11 n12 n13 ∧ w81 = w81) ∧ (∀ (w83 : World), u80 w83 → Value.int IntKind.i64 (Int.tmod i48 (2 : Int)) = Value.int IntKind.i64 (Int.tmod i48 (2 : Int)) ∧ w83 = w83) ∧ rd o11 fun a85 => ((0 : Int) ≤ Int.tmod i48 (2 : Int) ∧ Int.tmod i48 (2 : Int) < (↑n12 : Int)) ∧ (∀ (w86 : World), u80 w86 → rd o11 fun a88 => ((0 : Int) ≤ Int.tmod i48 (2 : Int) ∧ Int.tmod i48 (2 : Int) < (↑n12 : Int)) ∧ Value.pointer (some (Addr.add a88 (Int.toNat (Int.tmod i48 (2 : Int)) * (1 : Nat)))) = Value.pointer (some (Addr.add a85 (Int.toNat (Int.tmod i48 (2 : Int)) * (1 : Nat)))) ∧ w86 = w86) ∧ rd (World.cell? (World.drew w75) (Addr.add a85 (Int.toNat (Int.tmod i48 (2 : Int)) * (1 : Nat)))) fun v89 => (∀ (w90 : World), u80 w90 → rd (World.cell? w90 (Addr.add a85 (Int.toNat (Int.tmod i48 (2 : Int)) * (1 : Nat)))) fun v92 => v92 = v89 ∧ w90 = w90) ∧ isP v89 fun o93 => (∀ (w94 : World), u80 w94 → Value.pointer (some { block := n52, off := (2 : Nat) : Addr }) = Value.pointer (some { block := n52, off := (2 : Nat) : Addr }) ∧ w94 = w94) ∧ rd (cellsAt (World.drew w75) { block := n52, off := (2 : Nat) : Addr } (23 : Nat)) fun l96 => (∀ (w97 : World), u80 w97 → rd (cellsAt w97 { block := n52, off := (2 : Nat) : Addr } (23 : Nat)) fun l99 => Value.agg (List.toArray l99) = Value.agg (List.toArray l96) ∧ w97 = w97) ∧ (∀ (w100 : World), u80 w100 → Value.slice o22 n23 n24 = Value.slice o22 n23 n24 ∧ w100 = w100) ∧ (∀ (w102 : World), u80 w102 → Value.int IntKind.i64 (Int.tmod i48 (2 : Int)) = Value.int IntKind.i64 (Int.tmod i48 (2 : Int)) ∧ w102 = w102) ∧ rd o22 fun a104 => ((0 : Int) ≤ Int.tmod i48 (2 : Int) ∧ Int.tmod i48 (2 : Int) < (↑n23 : Int)) ∧ (∀ (w105 : World), u80 w105 → rd o22 fun a107 => ((0 : Int) ≤ Int.tmod i48 (2 : Int) ∧ Int.tmod i48 (2 : Int) < (↑n23 : Int)) ∧ Value.pointer (some (Addr.add a107 (Int.toNat (Int.tmod i48 (2 : Int)) * (1 : Nat)))) = Value.pointer (some (Addr.add a104 (Int.toNat (Int.tmod i48 (2 : Int)) * (1 : Nat)))) ∧ w105 = w105) ∧ rd (World.cell? (World.drew w75) (Addr.add a104 (Int.toNat (Int.tmod i48 (2 : Int)) * (1 : Nat)))) fun v108 => (∀ (w109 : World), u80 w109 → rd (World.cell? w109 (Addr.add a104 (Int.toNat (Int.tmod i48 (2 : Int)) * (1 : Nat)))) fun v111 => v111 = v108 ∧ w109 = w109) ∧ isP v108 fun o112 => (∀ (w113 : World), u80 w113 → Value.pointer (some { block := n52, off := (2 : Nat) : Addr }) = Value.pointer (some { block := n52, off := (2 : Nat) : Addr }) ∧ w113 = w113) ∧ rd (cellsAt (World.drew w75) { block := n52, off := (2 : Nat) : Addr } (23 : Nat)) fun l115 => (∀ (w116 : World), u80 w116 → rd (cellsAt w116 { block := n52, off := (2 : Nat) : Addr } (23 : Nat)) fun l118 => Value.agg (List.toArray l118) = Value.agg (List.toArray l115) ∧ w116 = w116) ∧ callV Tryz.prog (7 : Nat) [Value.pointer o93, Value.agg (List.toArray l96)] (World.drew w75) fun v119 w120 => isK IntKind.i64 v119 fun i121 => u80 w120 ∧ callV Tryz.prog (8 : Nat) [Value.pointer o112, Value.agg (List.toArray l115)] w120 fun v122 w123 => isK IntKind.i64 v122 fun i124 => u80 w123 ∧ (∀ (w125 : World), u80 w125 → Value.bool (decide (i121 = i124)) = Value.bool (decide (i121 = i124)) ∧ w125 = w125) ∧ (∀ (w127 : World), u80 w127 → Value.bool (decide (i121 = i124)) = Value.bool (decide (i121 = i124)) ∧ w127 = w127) ∧ u77 (alist [((11 : Nat), Value.bool (decide (i121 = i124))), ((12 : Nat), u74 (12 : Nat))]) w123) (br (decide (i79 = (1 : Int))) (heldC (World.drew w75) fun u129 => (∀ (w130 : World), u129 w130 → Value.slice o11 n12 n13 = Value.slice o11 n12 n13 ∧ w130 = w130) ∧ (∀ (w132 : World), u129 w132 → Value.int IntKind.i64 (Int.tmod i48 (2 : Int)) = Value.int IntKind.i64 (Int.tmod i48 (2 : Int)) ∧ w132 = w132) ∧ rd o11 fun a134 => ((0 : Int) ≤ Int.tmod i48 (2 : Int) ∧ Int.tmod i48 (2 : Int) < (↑n12 : Int)) ∧ (∀ (w135 : World), u129 w135 → rd o11 fun a137 => ((0 : Int) ≤ Int.tmod i48 (2 : Int) ∧ Int.tmod i48 (2 : Int) < (↑n12 : Int)) ∧ Value.pointer (some (Addr.add a137 (Int.toNat (Int.tmod i48 (2 : Int)) * (1 : Nat)))) = Value.pointer (some (Addr.add a134 (Int.toNat (Int.tmod i48 (2 : Int)) * (1 : Nat)))) ∧ w135 = w135) ∧ rd (World.cell? (World.drew w75) (Addr.add a134 (Int.toNat (Int.tmod i48 (2 : Int)) * (1 : Nat)))) fun v138 => (∀ (w139 : World), u129 w139 → rd (World.cell? w139 (Addr.add a134 (Int.toNat (Int.tmod i48 (2 : Int)) * (1 : Nat)))) fun v141 => v141 = v138 ∧ w139 = w139) ∧ isP v138 fun o142 => (∀ (w143 : World), u129 w143 → Value.pointer (some { block := n52, off := (2 : Nat) : Addr }) = Value.pointer (some { block := n52, off := (2 : Nat) : Addr }) ∧ w143 = w143) ∧ rd (cellsAt (World.drew w75) { block := n52, off := (2 : Nat) : Addr } (23 : Nat)) fun l145 => (∀ (w146 : World), u129 w146 → rd (cellsAt w146 { block := n52, off := (2 : Nat) : Addr } (23 : Nat)) fun l148 => Value.agg (List.toArray l148) = Value.agg (List.toArray l145) ∧ w146 = w146) ∧ (∀ (w149 : World), u129 w149 → Value.slice o22 n23 n24 = Value.slice o22 n23 n24 ∧ w149 = w149) ∧ (∀ (w151 : World), u129 w151 → Value.int IntKind.i64 (Int.tmod i48 (2 : Int)) = Value.int IntKind.i64 (Int.tmod i48 (2 : Int)) ∧ w151 = w151) ∧ rd o22 fun a153 => ((0 : Int) ≤ Int.tmod i48 (2 : Int) ∧ Int.tmod i48 (2 : Int) < (↑n23 : Int)) ∧ (∀ (w154 : World), u129 w154 → rd o22 fun a156 => ((0 : Int) ≤ Int.tmod i48 (2 : Int) ∧ Int.tmod i48 (2 : Int) < (↑n23 : Int)) ∧ Value.pointer (some (Addr.add a156 (Int.toNat (Int.tmod i48 (2 : Int)) * (1 : Nat)))) = Value.pointer (some (Addr.add a153 (Int.toNat (Int.tmod i48 (2 : Int)) * (1 : Nat)))) ∧ w154 = w154) ∧ rd (World.cell? (World.drew w75) (Addr.add a153 (Int.toNat (Int.tmod i48 (2 : Int)) * (1 : Nat)))) fun v157 => (∀ (w158 : World), u129 w158 → rd (World.cell? w158 (Addr.add a153 (Int.toNat (Int.tmod i48 (2 : Int)) * (1 : Nat)))) fun v160 => v160 = v157 ∧ w158 = w158) ∧ isP v157 fun o161 => (∀ (w162 : World), u129 w162 → Value.pointer (some { block := n52, off := (2 : Nat) : Addr }) = Value.pointer (some { block := n52, off := (2 : Nat) : Addr }) ∧ w162 = w162) ∧ rd (cellsAt (World.drew w75) { block := n52, off := (2 : Nat) : Addr } (23 : Nat)) fun l164 => (∀ (w165 : World), u129 w165 → rd (cellsAt w165 { block := n52, off := (2 : Nat) : Addr } (23 : Nat)) fun l167 => Value.agg (List.toArray l167) = Value.agg (List.toArray l164) ∧ w165 = w165) ∧ callV Tryz.prog (7 : Nat) [Value.pointer o142, Value.agg (List.toArray l145)] (World.drew w75) fun v168 w169 => isK IntKind.i64 v168 fun i170 => u129 w169 ∧ callV Tryz.prog (8 : Nat) [Value.pointer o161, Value.agg (List.toArray l164)] w169 fun v171 w172 => isK IntKind.i64 v171 fun i173 => u129 w172 ∧ (∀ (w174 : World), u129 w174 → Value.bool (decide (i170 = i173)) = Value.bool (decide (i170 = i173)) ∧ w174 = w174) ∧ (∀ (w176 : World), u129 w176 → Value.bool (decide (i170 = i173)) = Value.bool (decide (i170 = i173)) ∧ w176 = w176) ∧ u77 (alist [((11 : Nat), Value.bool (decide (i170 = i173))), ((12 : Nat), u74 (12 : Nat))]) w172) (br (decide (i79 = (2 : Int))) (cutC (fun u178 => rd (cellsAt w75 { block := n52, off := (2 : Nat) : Addr } (23 : Nat)) fun l179 => callV Tryz.prog (9 : Nat) [Value.agg (List.toArray l179)] w75 fun v180 w181 => isB v180 fun t182 => br t182 (rd (cellsAt w181 { block := n52, off := (2 : Nat) : Addr } (23 : Nat)) fun l183 => runs Tryz.prog (Instr.buildSlice (45 : Nat) (1 : Nat) #[((0 : Nat), Value.agg (List.toArray l183))]) w181 fun v184 w185 => isSl v184 fun o186 n187 n188 => runs Tryz.prog (Builtin.append_ #[(45 : Nat), (45 : Nat)] (45 : Nat) #[Value.slice none (0 : Nat) (0 : Nat), Value.slice o186 n187 n188]) w185 fun v189 w190 => isSl v189 fun o191 n192 n193 => u178 (alist [((13 : Nat), Value.slice o191 n192 n193)]) w190) (u178 (alist [((13 : Nat), Value.slice none (0 : Nat) (0 : Nat))]) w181)) fun u194 => ∀ (u195 : Nat → Value) (w196 : World), u194 (alist [((13 : Nat), u195 (13 : Nat))]) w196 → rd o11 fun a198 => ((0 : Int) ≤ Int.tmod i48 (2 : Int) ∧ Int.tmod i48 (2 : Int) < (↑n12 : Int)) ∧ rd (World.cell? w196 (Addr.add a198 (Int.toNat (Int.tmod i48 (2 : Int)) * (1 : Nat)))) fun v199 => isP v199 fun o200 => isSl (u195 (13 : Nat)) fun o201 n202 n203 => callV Tryz.prog (10 : Nat) [Value.pointer o200, Value.slice o201 n202 n203, Value.int IntKind.u32 (IntKind.wrap IntKind.u32 (i55 + andI IntKind.u32 i57 (255 : Int)))] w196 fun v204 w205 => isTup v204 fun l206 => rd l206[(0 : Nat)]? fun v207 => isSl v207 fun o208 n209 n210 => isTup v204 fun l211 => rd l211[(1 : Nat)]? fun v212 => isK IntKind.i64 v212 fun i213 => rd o22 fun a214 => ((0 : Int) ≤ Int.tmod i48 (2 : Int) ∧ Int.tmod i48 (2 : Int) < (↑n23 : Int)) ∧ rd (World.cell? w205 (Addr.add a214 (Int.toNat (Int.tmod i48 (2 : Int)) * (1 : Nat)))) fun v215 => isP v215 fun o216 => isSl (u195 (13 : Nat)) fun o217 n218 n219 => callV Tryz.prog (11 : Nat) [Value.pointer o216, Value.slice o217 n218 n219, Value.int IntKind.u32 (IntKind.wrap IntKind.u32 (i55 + andI IntKind.u32 i57 (255 : Int)))] w205 fun v220 w221 => isTup v220 fun l222 => rd l222[(0 : Nat)]? fun v223 => isStr v223 fun x224 => isTup v220 fun l225 => rd l225[(1 : Nat)]? fun v226 => isK IntKind.i64 v226 fun i227 => cutC (fun u228 => runs Tryz.prog (convert (39 : Nat) (9 : Nat) (Value.slice o208 n209 n210)) w221 fun v229 w230 => isStr v229 fun x231 => br (decide (x231 = x224)) (u228 (alist [((11 : Nat), Value.bool (decide (i213 = i227)))]) w230) (u228 (alist [((11 : Nat), Value.bool false)]) w230)) fun u232 => ∀ (u233 : Nat → Value) (w234 : World), u232 (alist [((11 : Nat), u233 (11 : Nat))]) w234 → br (decide (i213 = (0 : Int))) (rd o38 fun a236 => ((0 : Int) ≤ Int.tmod i48 (2 : Int) ∧ Int.tmod i48 (2 : Int) < (↑n39 : Int)) ∧ rd (World.cell? w234 (Addr.add a236 (Int.toNat (Int.tmod i48 (2 : Int)) * (1 : Nat)))) fun v237 => isSl v237 fun o238 n239 n240 => runs Tryz.prog (Instr.buildSlice (51 : Nat) (1 : Nat) #[((0 : Nat), Value.string x224)]) w234 fun v241 w242 => isSl v241 fun o243 n244 n245 => runs Tryz.prog (Builtin.append_ #[(51 : Nat), (51 : Nat)] (51 : Nat) #[Value.slice o238 n239 n240, Value.slice o243 n244 n245]) w242 fun v246 w247 => isSl v246 fun o248 n249 n250 => rd o38 fun a251 => ((0 : Int) ≤ Int.tmod i48 (2 : Int) ∧ Int.tmod i48 (2 : Int) < (↑n39 : Int)) ∧ stC w247 (Addr.add a251 (Int.toNat (Int.tmod i48 (2 : Int)) * (1 : Nat))) [Value.slice o248 n249 n250] fun w252 => u77 (alist [((11 : Nat), u233 (11 : Nat)), ((12 : Nat), u74 (12 : Nat))]) w252) (u77 (alist [((11 : Nat), u233 (11 : Nat)), ((12 : Nat), u74 (12 : Nat))]) w234)) (br (decide (i79 = (3 : Int))) (cutC (fun u253 => rd (cellsAt w75 { block := n52, off := (2 : Nat) : Addr } (23 : Nat)) fun l254 => callV Tryz.prog (9 : Nat) [Value.agg (List.toArray l254)] w75 fun v255 w256 => isB v255 fun t257 => br t257 (rd (cellsAt w256 { block := n52, off := (2 : Nat) : Addr } (23 : Nat)) fun l258 => runs Tryz.prog (Instr.buildSlice (45 : Nat) (1 : Nat) #[((0 : Nat), Value.agg (List.toArray l258))]) w256 fun v259 w260 => isSl v259 fun o261 n262 n263 => runs Tryz.prog (Builtin.append_ #[(45 : Nat), (45 : Nat)] (45 : Nat) #[Value.slice none (0 : Nat) (0 : Nat), Value.slice o261 n262 n263]) w260 fun v264 w265 => isSl v264 fun o266 n267 n268 => u253 (alist [((13 : Nat), Value.slice o266 n267 n268)]) w265) (u253 (alist [((13 : Nat), Value.slice none (0 : Nat) (0 : Nat))]) w256)) fun u269 => ∀ (u270 : Nat → Value) (w271 : World), u269 (alist [((13 : Nat), u270 (13 : Nat))]) w271 → rd o11 fun a273 => ((0 : Int) ≤ Int.tmod i48 (2 : Int) ∧ Int.tmod i48 (2 : Int) < (↑n12 : Int)) ∧ rd (World.cell? w271 (Addr.add a273 (Int.toNat (Int.tmod i48 (2 : Int)) * (1 : Nat)))) fun v274 => isP v274 fun o275 => isSl (u270 (13 : Nat)) fun o276 n277 n278 => callV Tryz.prog (10 : Nat) [Value.pointer o275, Value.slice o276 n277 n278, Value.int IntKind.u32 (IntKind.wrap IntKind.u32 (i55 + andI IntKind.u32 i57 (255 : Int)))] w271 fun v279 w280 => isTup v279 fun l281 => rd l281[(0 : Nat)]? fun v282 => isSl v282 fun o283 n284 n285 => isTup v279 fun l286 => rd l286[(1 : Nat)]? fun v287 => isK IntKind.i64 v287 fun i288 => rd o22 fun a289 => ((0 : Int) ≤ Int.tmod i48 (2 : Int) ∧ Int.tmod i48 (2 : Int) < (↑n23 : Int)) ∧ rd (World.cell? w280 (Addr.add a289 (Int.toNat (Int.tmod i48 (2 : Int)) * (1 : Nat)))) fun v290 => isP v290 fun o291 => isSl (u270 (13 : Nat)) fun o292 n293 n294 => callV Tryz.prog (11 : Nat) [Value.pointer o291, Value.slice o292 n293 n294, Value.int IntKind.u32 (IntKind.wrap IntKind.u32 (i55 + andI IntKind.u32 i57 (255 : Int)))] w280 fun v295 w296 => isTup v295 fun l297 => rd l297[(0 : Nat)]? fun v298 => isStr v298 fun x299 => isTup v295 fun l300 => rd l300[(1 : Nat)]? fun v301 => isK IntKind.i64 v301 fun i302 => cutC (fun u303 => runs Tryz.prog (convert (39 : Nat) (9 : Nat) (Value.slice o283 n284 n285)) w296 fun v304 w305 => isStr v304 fun x306 => br (decide (x306 = x299)) (u303 (alist [((11 : Nat), Value.bool (decide (i288 = i302)))]) w305) (u303 (alist [((11 : Nat), Value.bool false)]) w305)) fun u307 => ∀ (u308 : Nat → Value) (w309 : World), u307 (alist [((11 : Nat), u308 (11 : Nat))]) w309 → br (decide (i288 = (0 : Int))) (rd o38 fun a311 => ((0 : Int) ≤ Int.tmod i48 (2 : Int) ∧ Int.tmod i48 (2 : Int) < (↑n39 : Int)) ∧ rd (World.cell? w309 (Addr.add a311 (Int.toNat (Int.tmod i48 (2 : Int)) * (1 : Nat)))) fun v312 => isSl v312 fun o313 n314 n315 => runs Tryz.prog (Instr.buildSlice (51 : Nat) (1 : Nat) #[((0 : Nat), Value.string x299)]) w309 fun v316 w317 => isSl v316 fun o318 n319 n320 => runs Tryz.prog (Builtin.append_ #[(51 : Nat), (51 : Nat)] (51 : Nat) #[Value.slice o313 n314 n315, Value.slice o318 n319 n320]) w317 fun v321 w322 => isSl v321 fun o323 n324 n325 => rd o38 fun a326 => ((0 : Int) ≤ Int.tmod i48 (2 : Int) ∧ Int.tmod i48 (2 : Int) < (↑n39 : Int)) ∧ stC w322 (Addr.add a326 (Int.toNat (Int.tmod i48 (2 : Int)) * (1 : Nat))) [Value.slice o323 n324 n325] fun w327 => u77 (alist [((11 : Nat), u308 (11 : Nat)), ((12 : Nat), u74 (12 : Nat))]) w327) (u77 (alist [((11 : Nat), u308 (11 : Nat)), ((12 : Nat), u74 (12 : Nat))]) w309)) (br (decide (i79 = (4 : Int))) (u77 (alist [((11 : Nat), Value.bool true), ((12 : Nat), Value.int IntKind.i64 (IntKind.wrap IntKind.i64 ((1 : Int) - Int.tmod i48 (2 : Int))))]) w75) (br (decide (i79 = (5 : Int))) (u77 (alist [((11 : Nat), Value.bool true), ((12 : Nat), Value.int IntKind.i64 (IntKind.wrap IntKind.i64 ((1 : Int) - Int.tmod i48 (2 : Int))))]) w75) (br (decide (i79 = (6 : Int))) (u77 (alist [((11 : Nat), Value.bool true), ((12 : Nat), Value.int IntKind.i64 (Int.tmod i48 (2 : Int)))]) w75) (br (decide (i79 = (7 : Int))) (rd (World.cell? w75 { block := n52, off := (26 : Nat) : Addr }) fun v328 => isSl v328 fun o329 n330 n331 => rd (World.cell? w75 { block := n52, off := (26 : Nat) : Addr }) fun v332 => isSl v332 fun o333 n334 n335 => runs Tryz.prog (Instr.sliceAt (39 : Nat) (Value.slice o329 n330 n331) none (some (Value.int IntKind.i64 (min (↑n334 : Int) (100 : Int)))) none) w75 fun v336 w337 => isSl v336 fun o338 n339 n340 => rd o11 fun a341 => ((0 : Int) ≤ Int.tmod i48 (2 : Int) ∧ Int.tmod i48 (2 : Int) < (↑n12 : Int)) ∧ rd (World.cell? w337 (Addr.add a341 (Int.toNat (Int.tmod i48 (2 : Int)) * (1 : Nat)))) fun v342 => isP v342 fun o343 => callV Tryz.prog (12 : Nat) [Value.pointer o343, Value.slice o338 n339 n340, Value.int IntKind.u32 (IntKind.wrap IntKind.u32 (i55 + andI IntKind.u32 i57 (255 : Int)))] w337 fun v344 w345 => isTup v344 fun l346 => rd l346[(0 : Nat)]? fun v347 => isSl v347 fun o348 n349 n350 => isTup v344 fun l351 => rd l351[(1 : Nat)]? fun v352 => isK IntKind.i64 v352 fun i353 => heldC (World.drew w345) fun u354 => (∀ (w355 : World), u354 w355 → Value.slice o22 n23 n24 = Value.slice o22 n23 n24 ∧ w355 = w355) ∧ (∀ (w357 : World), u354 w357 → Value.int IntKind.i64 (Int.tmod i48 (2 : Int)) = Value.int IntKind.i64 (Int.tmod i48 (2 : Int)) ∧ w357 = w357) ∧ rd o22 fun a359 => ((0 : Int) ≤ Int.tmod i48 (2 : Int) ∧ Int.tmod i48 (2 : Int) < (↑n23 : Int)) ∧ (∀ (w360 : World), u354 w360 → rd o22 fun a362 => ((0 : Int) ≤ Int.tmod i48 (2 : Int) ∧ Int.tmod i48 (2 : Int) < (↑n23 : Int)) ∧ Value.pointer (some (Addr.add a362 (Int.toNat (Int.tmod i48 (2 : Int)) * (1 : Nat)))) = Value.pointer (some (Addr.add a359 (Int.toNat (Int.tmod i48 (2 : Int)) * (1 : Nat)))) ∧ w360 = w360) ∧ rd (World.cell? (World.drew w345) (Addr.add a359 (Int.toNat (Int.tmod i48 (2 : Int)) * (1 : Nat)))) fun v363 => (∀ (w364 : World), u354 w364 → rd (World.cell? w364 (Addr.add a359 (Int.toNat (Int.tmod i48 (2 : Int)) * (1 : Nat)))) fun v366 => v366 = v363 ∧ w364 = w364) ∧ isP v363 fun o367 => (∀ (w368 : World), u354 w368 → Value.slice o338 n339 n340 = Value.slice o338 n339 n340 ∧ w368 = w368) ∧ runs Tryz.prog (convert (39 : Nat) (9 : Nat) (Value.slice o338 n339 n340)) (World.drew w345) fun v370 w371 => (∀ (w372 : World), u354 w372 → runs Tryz.prog (convert (39 : Nat) (9 : Nat) (Value.slice o338 n339 n340)) w372 fun v374 w375 => v374 = v370 ∧ w375 = w372) ∧ isStr v370 fun x376 => (∀ (w377 : World), u354 w377 → Value.int IntKind.u32 (IntKind.wrap IntKind.u32 (i55 + andI IntKind.u32 i57 (255 : Int))) = Value.int IntKind.u32 (IntKind.wrap IntKind.u32 (i55 + andI IntKind.u32 i57 (255 : Int))) ∧ w377 = w377) ∧ callV Tryz.prog (13 : Nat) [Value.pointer o367, Value.string x376, Value.int IntKind.u32 (IntKind.wrap IntKind.u32 (i55 + andI IntKind.u32 i57 (255 : Int)))] (World.drew w345) fun v379 w380 => u354 w380 ∧ (∀ (w381 : World), u354 w381 → v379 = v379 ∧ w381 = w381) ∧ isTup v379 fun l383 => rd l383[(0 : Nat)]? fun v384 => (∀ (w385 : World), u354 w385 → isTup v379 fun l387 => rd l387[(0 : Nat)]? fun v388 => v388 = v384 ∧ w385 = w385) ∧ isSl v384 fun o389 n390 n391 => isTup v379 fun l392 => rd l392[(1 : Nat)]? fun v393 => (∀ (w394 : World), u354 w394 → isTup v379 fun l396 => rd l396[(1 : Nat)]? fun v397 => v397 = v393 ∧ w394 = w394) ∧ isK IntKind.i64 v393 fun i398 => (∀ (w399 : World), u354 w399 → Value.slice o389 n390 n391 = Value.slice o389 n390 n391 ∧ w399 = w399) ∧ (∀ (w401 : World), u354 w401 → Value.int IntKind.i64 i398 = Value.int IntKind.i64 i398 ∧ w401 = w401) ∧ callV Tryz.prog (14 : Nat) [Value.slice o348 n349 n350, Value.slice o389 n390 n391] w380 fun v403 w404 => isB v403 fun t405 => br t405 (u77 (alist [((11 : Nat), Value.bool (decide (i353 = i398))), ((12 : Nat), u74 (12 : Nat))]) w404) (u77 (alist [((11 : Nat), Value.bool false), ((12 : Nat), u74 (12 : Nat))]) w404)) (u77 (alist [((11 : Nat), Value.bool true), ((12 : Nat), u74 (12 : Nat))]) w75))))))))) fun u406 => ∀ (u407 : Nat → Value) (w408 : World), u406 (alist [((11 : Nat), u407 (11 : Nat)), ((12 : Nat), u407 (12 : Nat))]) w408 → cutC (fun u410 => isK IntKind.i64 (u407 (12 : Nat)) fun i411 => br (decide ((0 : Int) ≤ i411)) (isK IntKind.i64 (u407 (12 : Nat)) fun i412 => rd o38 fun a413 => ((0 : Int) ≤ i412 ∧ i412 < (↑n39 : Int)) ∧ rd (World.cell? w408 (Addr.add a413 (Int.toNat i412 * (1 : Nat)))) fun v414 => isSl v414 fun o415 n416 n417 => br (decide ((0 : Int) < (↑n416 : Int))) (isK IntKind.i64 (u407 (12 : Nat)) fun i418 => rd o38 fun a419 => ((0 : Int) ≤ i418 ∧ i418 < (↑n39 : Int)) ∧ rd (World.cell? (World.drew w408) (Addr.add a419 (Int.toNat i418 * (1 : Nat)))) fun v420 => isSl v420 fun o421 n422 n423 => rd (World.cell? (World.drew w408) { block := n52, off := (1 : Nat) : Addr }) fun v424 => isK IntKind.i64 v424 fun i425 => isK IntKind.i64 (u407 (12 : Nat)) fun i426 => rd o38 fun a427 => ((0 : Int) ≤ i426 ∧ i426 < (↑n39 : Int)) ∧ rd (World.cell? (World.drew w408) (Addr.add a427 (Int.toNat i426 * (1 : Nat)))) fun v428 => isSl v428 fun o429 n430 n431 => rd (orO (binV BinOp.rem (Value.int IntKind.i64 (andI IntKind.i64 i425 (65535 : Int))) (Value.int IntKind.i64 (↑n430 : Int))) none) fun v432 => isK IntKind.i64 v432 fun i433 => rd o421 fun a434 => ((0 : Int) ≤ i433 ∧ i433 < (↑n422 : Int)) ∧ rd (World.cell? (World.drew w408) (Addr.add a434 (Int.toNat i433 * (1 : Nat)))) fun v435 => isStr v435 fun x436 => rd o11 fun a437 => ((0 : Int) ≤ Int.tmod i48 (2 : Int) ∧ Int.tmod i48 (2 : Int) < (↑n12 : Int)) ∧ rd (World.cell? (World.drew w408) (Addr.add a437 (Int.toNat (Int.tmod i48 (2 : Int)) * (1 : Nat)))) fun v438 => isP v438 fun o439 => runs Tryz.prog (convert (9 : Nat) (39 : Nat) (Value.string x436)) (World.drew w408) fun v440 w441 => isSl v440 fun o442 n443 n444 => callV Tryz.prog (12 : Nat) [Value.pointer o439, Value.slice o442 n443 n444, Value.int IntKind.u32 (IntKind.wrap IntKind.u32 (i55 + andI IntKind.u32 i57 (255 : Int)))] w441 fun v445 w446 => isTup v445 fun l447 => rd l447[(0 : Nat)]? fun v448 => isSl v448 fun o449 n450 n451 => isTup v445 fun l452 => rd l452[(1 : Nat)]? fun v453 => isK IntKind.i64 v453 fun i454 => rd o22 fun a455 => ((0 : Int) ≤ Int.tmod i48 (2 : Int) ∧ Int.tmod i48 (2 : Int) < (↑n23 : Int)) ∧ rd (World.cell? w446 (Addr.add a455 (Int.toNat (Int.tmod i48 (2 : Int)) * (1 : Nat)))) fun v456 => isP v456 fun o457 => callV Tryz.prog (13 : Nat) [Value.pointer o457, Value.string x436, Value.int IntKind.u32 (IntKind.wrap IntKind.u32 (i55 + andI IntKind.u32 i57 (255 : Int)))] w446 fun v458 w459 => isTup v458 fun l460 => rd l460[(0 : Nat)]? fun v461 => isSl v461 fun o462 n463 n464 => isTup v458 fun l465 => rd l465[(1 : Nat)]? fun v466 => isK IntKind.i64 v466 fun i467 => callV Tryz.prog (14 : Nat) [Value.slice o449 n450 n451, Value.slice o462 n463 n464] w459 fun v468 w469 => isB v468 fun t470 => br t470 (u410 (alist [((11 : Nat), Value.bool (decide (i454 = i467)))]) w469) (u410 (alist [((11 : Nat), Value.bool false)]) w469)) (u410 (alist [((11 : Nat), u407 (11 : Nat))]) w408)) (u410 (alist [((11 : Nat), u407 (11 : Nat))]) w408)) fun u471 => ∀ (u472 : Nat → Value) (w473 : World), u471 (alist [((11 : Nat), u472 (11 : Nat))]) w473 → cutC (fun u475 => rd o11 fun a476 => ((0 : Int) ≤ Int.tmod i48 (2 : Int) ∧ Int.tmod i48 (2 : Int) < (↑n12 : Int)) ∧ rd (World.cell? w473 (Addr.add a476 (Int.toNat (Int.tmod i48 (2 : Int)) * (1 : Nat)))) fun v477 => isP v477 fun o478 => callV Tryz.prog (15 : Nat) [Value.pointer o478] w473 fun v479 w480 => isTup v479 fun l481 => rd l481[(0 : Nat)]? fun v482 => isK IntKind.u32 v482 fun i483 => isTup v479 fun l484 => rd l484[(1 : Nat)]? fun v485 => isB v485 fun t486 => u475 (alist [((28 : Nat), Value.int IntKind.u32 i483), ((29 : Nat), Value.bool t486)]) w480) fun u487 => ∀ (u488 : Nat → Value) (w489 : World), u487 (alist [((28 : Nat), u488 (28 : Nat)), ((29 : Nat), u488 (29 : Nat))]) w489 → heldC (World.drew w489) fun u491 => (∀ (w492 : World), u491 w492 → u472 (11 : Nat) = u472 (11 : Nat) ∧ w492 = w492) ∧ isB (u472 (11 : Nat)) fun t494 => (∀ (w495 : World), u491 w495 → (Value.bool !t494) = Value.bool !t494 ∧ w495 = w495) ∧ (∀ (w497 : World), u491 w497 → (Value.bool !t494) = Value.bool !t494 ∧ w497 = w497) ∧ br (!t494) (u491 (World.drew w489) ∧ (∀ (w499 : World), u491 w499 → Value.bool true = Value.bool true ∧ w499 = w499) ∧ (∀ (w501 : World), u491 w501 → Value.bool true = Value.bool true ∧ w501 = w501) ∧ u491 (World.drew w489) ∧ (∀ (w503 : World), u491 w503 → Value.bool true = Value.bool true ∧ w503 = w503) ∧ (∀ (w505 : World), u491 w505 → Value.bool true = Value.bool true ∧ w505 = w505) ∧ (∀ (w507 : World), u491 w507 → Value.bool true = Value.bool true ∧ w507 = w507) ∧ (∀ (w509 : World), u491 w509 → Value.bool true = Value.bool true ∧ w509 = w509) ∧ (∀ (w511 : World), u491 w511 → Value.bool true = Value.bool true ∧ w511 = w511) ∧ R (Value.bool false) (World.drew w489)) ((∀ (w513 : World), u491 w513 → Value.slice o11 n12 n13 = Value.slice o11 n12 n13 ∧ w513 = w513) ∧ (∀ (w515 : World), u491 w515 → Value.int IntKind.i64 (Int.tmod i48 (2 : Int)) = Value.int IntKind.i64 (Int.tmod i48 (2 : Int)) ∧ w515 = w515) ∧ rd o11 fun a517 => ((0 : Int) ≤ Int.tmod i48 (2 : Int) ∧ Int.tmod i48 (2 : Int) < (↑n12 : Int)) ∧ (∀ (w518 : World), u491 w518 → rd o11 fun a520 => ((0 : Int) ≤ Int.tmod i48 (2 : Int) ∧ Int.tmod i48 (2 : Int) < (↑n12 : Int)) ∧ Value.pointer (some (Addr.add a520 (Int.toNat (Int.tmod i48 (2 : Int)) * (1 : Nat)))) = Value.pointer (some (Addr.add a517 (Int.toNat (Int.tmod i48 (2 : Int)) * (1 : Nat)))) ∧ w518 = w518) ∧ rd (World.cell? (World.drew w489) (Addr.add a517 (Int.toNat (Int.tmod i48 (2 : Int)) * (1 : Nat)))) fun v521 => (∀ (w522 : World), u491 w522 → rd (World.cell? w522 (Addr.add a517 (Int.toNat (Int.tmod i48 (2 : Int)) * (1 : Nat)))) fun v524 => v524 = v521 ∧ w522 = w522) ∧ isP v521 fun o525 => (∀ (w526 : World), u491 w526 → Value.slice o22 n23 n24 = Value.slice o22 n23 n24 ∧ w526 = w526) ∧ (∀ (w528 : World), u491 w528 → Value.int IntKind.i64 (Int.tmod i48 (2 : Int)) = Value.int IntKind.i64 (Int.tmod i48 (2 : Int)) ∧ w528 = w528) ∧ rd o22 fun a530 => ((0 : Int) ≤ Int.tmod i48 (2 : Int) ∧ Int.tmod i48 (2 : Int) < (↑n23 : Int)) ∧ (∀ (w531 : World), u491 w531 → rd o22 fun a533 => ((0 : Int) ≤ Int.tmod i48 (2 : Int) ∧ Int.tmod i48 (2 : Int) < (↑n23 : Int)) ∧ Value.pointer (some (Addr.add a533 (Int.toNat (Int.tmod i48 (2 : Int)) * (1 : Nat)))) = Value.pointer (some (Addr.add a530 (Int.toNat (Int.tmod i48 (2 : Int)) * (1 : Nat)))) ∧ w531 = w531) ∧ rd (World.cell? (World.drew w489) (Addr.add a530 (Int.toNat (Int.tmod i48 (2 : Int)) * (1 : Nat)))) fun v534 => (∀ (w535 : World), u491 w535 → rd (World.cell? w535 (Addr.add a530 (Int.toNat (Int.tmod i48 (2 : Int)) * (1 : Nat)))) fun v537 => v537 = v534 ∧ w535 = w535) ∧ isP v534 fun o538 => rd (nilChk (Value.pointer o538)) fun v539 => (∀ (w540 : World), u491 w540 → rd (nilChk (Value.pointer o538)) fun v542 => v542 = v539 ∧ w540 = w540) ∧ isPtr v539 fun a543 => (∀ (w544 : World), u491 w544 → isPtr v539 fun a546 => Value.pointer (some (Addr.add a546 (2 : Nat))) = Value.pointer (some (Addr.add a543 (2 : Nat))) ∧ w544 = w544) ∧ rd (World.cell? (World.drew w489) (Addr.add a543 (2 : Nat))) fun v547 => (∀ (w548 : World), u491 w548 → rd (World.cell? w548 (Addr.add a543 (2 : Nat))) fun v550 => v550 = v547 ∧ w548 = w548) ∧ isSl v547 fun o551 n552 n553 => (∀ (w554 : World), u491 w554 → Value.int IntKind.i64 (↑n552 : Int) = Value.int IntKind.i64 (↑n552 : Int) ∧ w554 = w554) ∧ callV Tryz.prog (16 : Nat) [Value.pointer o525] (World.drew w489) fun v556 w557 => isK IntKind.i64 v556 fun i558 => u491 w557 ∧ (∀ (w559 : World), u491 w559 → (Value.bool !decide (i558 = (↑n552 : Int))) = Value.bool !decide (i558 = (↑n552 : Int)) ∧ w559 = w559) ∧ (∀ (w561 : World), u491 w561 → (Value.bool !decide (i558 = (↑n552 : Int))) = Value.bool !decide (i558 = (↑n552 : Int)) ∧ w561 = w561) ∧ (∀ (w563 : World), u491 w563 → (Value.bool !decide (i558 = (↑n552 : Int))) = Value.bool !decide (i558 = (↑n552 : Int)) ∧ w563 = w563) ∧ br (!decide (i558 = (↑n552 : Int))) (u491 w557 ∧ (∀ (w565 : World), u491 w565 → Value.bool true = Value.bool true ∧ w565 = w565) ∧ (∀ (w567 : World), u491 w567 → Value.bool true = Value.bool true ∧ w567 = w567) ∧ (∀ (w569 : World), u491 w569 → Value.bool true = Value.bool true ∧ w569 = w569) ∧ (∀ (w571 : World), u491 w571 → Value.bool true = Value.bool true ∧ w571 = w571) ∧ (∀ (w573 : World), u491 w573 → Value.bool true = Value.bool true ∧ w573 = w573) ∧ R (Value.bool false) w557) ((∀ (w575 : World), u491 w575 → Value.slice o11 n12 n13 = Value.slice o11 n12 n13 ∧ w575 = w575) ∧ (∀ (w577 : World), u491 w577 → Value.int IntKind.i64 (Int.tmod i48 (2 : Int)) = Value.int IntKind.i64 (Int.tmod i48 (2 : Int)) ∧ w577 = w577) ∧ rd o11 fun a579 => ((0 : Int) ≤ Int.tmod i48 (2 : Int) ∧ Int.tmod i48 (2 : Int) < (↑n12 : Int)) ∧ (∀ (w580 : World), u491 w580 → rd o11 fun a582 => ((0 : Int) ≤ Int.tmod i48 (2 : Int) ∧ Int.tmod i48 (2 : Int) < (↑n12 : Int)) ∧ Value.pointer (some (Addr.add a582 (Int.toNat (Int.tmod i48 (2 : Int)) * (1 : Nat)))) = Value.pointer (some (Addr.add a579 (Int.toNat (Int.tmod i48 (2 : Int)) * (1 : Nat)))) ∧ w580 = w580) ∧ rd (World.cell? w557 (Addr.add a579 (Int.toNat (Int.tmod i48 (2 : Int)) * (1 : Nat)))) fun v583 => (∀ (w584 : World), u491 w584 → rd (World.cell? w584 (Addr.add a579 (Int.toNat (Int.tmod i48 (2 : Int)) * (1 : Nat)))) fun v586 => v586 = v583 ∧ w584 = w584) ∧ isP v583 fun o587 => (∀ (w588 : World), u491 w588 → Value.slice o22 n23 n24 = Value.slice o22 n23 n24 ∧ w588 = w588) ∧ (∀ (w590 : World), u491 w590 → Value.int IntKind.i64 (Int.tmod i48 (2 : Int)) = Value.int IntKind.i64 (Int.tmod i48 (2 : Int)) ∧ w590 = w590) ∧ rd o22 fun a592 => ((0 : Int) ≤ Int.tmod i48 (2 : Int) ∧ Int.tmod i48 (2 : Int) < (↑n23 : Int)) ∧ (∀ (w593 : World), u491 w593 → rd o22 fun a595 => ((0 : Int) ≤ Int.tmod i48 (2 : Int) ∧ Int.tmod i48 (2 : Int) < (↑n23 : Int)) ∧ Value.pointer (some (Addr.add a595 (Int.toNat (Int.tmod i48 (2 : Int)) * (1 : Nat)))) = Value.pointer (some (Addr.add a592 (Int.toNat (Int.tmod i48 (2 : Int)) * (1 : Nat)))) ∧ w593 = w593) ∧ rd (World.cell? w557 (Addr.add a592 (Int.toNat (Int.tmod i48 (2 : Int)) * (1 : Nat)))) fun v596 => (∀ (w597 : World), u491 w597 → rd (World.cell? w597 (Addr.add a592 (Int.toNat (Int.tmod i48 (2 : Int)) * (1 : Nat)))) fun v599 => v599 = v596 ∧ w597 = w597) ∧ isP v596 fun o600 => rd (nilChk (Value.pointer o600)) fun v601 => (∀ (w602 : World), u491 w602 → rd (nilChk (Value.pointer o600)) fun v604 => v604 = v601 ∧ w602 = w602) ∧ isPtr v601 fun a605 => (∀ (w606 : World), u491 w606 → isPtr v601 fun a608 => Value.pointer (some (Addr.add a608 (6 : Nat))) = Value.pointer (some (Addr.add a605 (6 : Nat))) ∧ w606 = w606) ∧ rd (World.cell? w557 (Addr.add a605 (6 : Nat))) fun v609 => (∀ (w610 : World), u491 w610 → rd (World.cell? w610 (Addr.add a605 (6 : Nat))) fun v612 => v612 = v609 ∧ w610 = w610) ∧ isK IntKind.i64 v609 fun i613 => callV Tryz.prog (17 : Nat) [Value.pointer o587] w557 fun v614 w615 => isK IntKind.i64 v614 fun i616 => u491 w615 ∧ (∀ (w617 : World), u491 w617 → (Value.bool !decide (i616 = i613)) = Value.bool !decide (i616 = i613) ∧ w617 = w617) ∧ (∀ (w619 : World), u491 w619 → (Value.bool !decide (i616 = i613)) = Value.bool !decide (i616 = i613) ∧ w619 = w619) ∧ (∀ (w621 : World), u491 w621 → (Value.bool !decide (i616 = i613)) = Value.bool !decide (i616 = i613) ∧ w621 = w621) ∧ br (!decide (i616 = i613)) ((∀ (w623 : World), u491 w623 → Value.bool true = Value.bool true ∧ w623 = w623) ∧ (∀ (w625 : World), u491 w625 → Value.bool true = Value.bool true ∧ w625 = w625) ∧ (∀ (w627 : World), u491 w627 → Value.bool true = Value.bool true ∧ w627 = w627) ∧ R (Value.bool false) w615) ((∀ (w629 : World), u491 w629 → u488 (29 : Nat) = u488 (29 : Nat) ∧ w629 = w629) ∧ isB (u488 (29 : Nat)) fun t631 => (∀ (w632 : World), u491 w632 → Value.slice o22 n23 n24 = Value.slice o22 n23 n24 ∧ w632 = w632) ∧ (∀ (w634 : World), u491 w634 → Value.int IntKind.i64 (Int.tmod i48 (2 : Int)) = Value.int IntKind.i64 (Int.tmod i48 (2 : Int)) ∧ w634 = w634) ∧ rd o22 fun a636 => ((0 : Int) ≤ Int.tmod i48 (2 : Int) ∧ Int.tmod i48 (2 : Int) < (↑n23 : Int)) ∧ (∀ (w637 : World), u491 w637 → rd o22 fun a639 => ((0 : Int) ≤ Int.tmod i48 (2 : Int) ∧ Int.tmod i48 (2 : Int) < (↑n23 : Int)) ∧ Value.pointer (some (Addr.add a639 (Int.toNat (Int.tmod i48 (2 : Int)) * (1 : Nat)))) = Value.pointer (some (Addr.add a636 (Int.toNat (Int.tmod i48 (2 : Int)) * (1 : Nat)))) ∧ w637 = w637) ∧ rd (World.cell? w615 (Addr.add a636 (Int.toNat (Int.tmod i48 (2 : Int)) * (1 : Nat)))) fun v640 => (∀ (w641 : World), u491 w641 → rd (World.cell? w641 (Addr.add a636 (Int.toNat (Int.tmod i48 (2 : Int)) * (1 : Nat)))) fun v643 => v643 = v640 ∧ w641 = w641) ∧ isP v640 fun o644 => rd (nilChk (Value.pointer o644)) fun v645 => (∀ (w646 : World), u491 w646 → rd (nilChk (Value.pointer o644)) fun v648 => v648 = v645 ∧ w646 = w646) ∧ isPtr v645 fun a649 => (∀ (w650 : World), u491 w650 → isPtr v645 fun a652 => Value.pointer (some (Addr.add a652 (5 : Nat))) = Value.pointer (some (Addr.add a649 (5 : Nat))) ∧ w650 = w650) ∧ rd (World.cell? w615 (Addr.add a649 (5 : Nat))) fun v653 => (∀ (w654 : World), u491 w654 → rd (World.cell? w654 (Addr.add a649 (5 : Nat))) fun v656 => v656 = v653 ∧ w654 = w654) ∧ isB v653 fun t657 => (∀ (w658 : World), u491 w658 → (Value.bool !decide (t631 = t657)) = Value.bool !decide (t631 = t657) ∧ w658 = w658) ∧ (∀ (w660 : World), u491 w660 → (Value.bool !decide (t631 = t657)) = Value.bool !decide (t631 = t657) ∧ w660 = w660) ∧ (∀ (w662 : World), u491 w662 → (Value.bool !decide (t631 = t657)) = Value.bool !decide (t631 = t657) ∧ w662 = w662) ∧ br (!decide (t631 = t657)) ((∀ (w664 : World), u491 w664 → Value.bool true = Value.bool true ∧ w664 = w664) ∧ R (Value.bool false) w615) ((∀ (w666 : World), u491 w666 → u488 (28 : Nat) = u488 (28 : Nat) ∧ w666 = w666) ∧ isK IntKind.u32 (u488 (28 : Nat)) fun i668 => (∀ (w669 : World), u491 w669 → Value.slice o22 n23 n24 = Value.slice o22 n23 n24 ∧ w669 = w669) ∧ (∀ (w671 : World), u491 w671 → Value.int IntKind.i64 (Int.tmod i48 (2 : Int)) = Value.int IntKind.i64 (Int.tmod i48 (2 : Int)) ∧ w671 = w671) ∧ rd o22 fun a673 => ((0 : Int) ≤ Int.tmod i48 (2 : Int) ∧ Int.tmod i48 (2 : Int) < (↑n23 : Int)) ∧ (∀ (w674 : World), u491 w674 → rd o22 fun a676 => ((0 : Int) ≤ Int.tmod i48 (2 : Int) ∧ Int.tmod i48 (2 : Int) < (↑n23 : Int)) ∧ Value.pointer (some (Addr.add a676 (Int.toNat (Int.tmod i48 (2 : Int)) * (1 : Nat)))) = Value.pointer (some (Addr.add a673 (Int.toNat (Int.tmod i48 (2 : Int)) * (1 : Nat)))) ∧ w674 = w674) ∧ rd (World.cell? w615 (Addr.add a673 (Int.toNat (Int.tmod i48 (2 : Int)) * (1 : Nat)))) fun v677 => (∀ (w678 : World), u491 w678 → rd (World.cell? w678 (Addr.add a673 (Int.toNat (Int.tmod i48 (2 : Int)) * (1 : Nat)))) fun v680 => v680 = v677 ∧ w678 = w678) ∧ isP v677 fun o681 => rd (nilChk (Value.pointer o681)) fun v682 => (∀ (w683 : World), u491 w683 → rd (nilChk (Value.pointer o681)) fun v685 => v685 = v682 ∧ w683 = w683) ∧ isPtr v682 fun a686 => (∀ (w687 : World), u491 w687 → isPtr v682 fun a689 => Value.pointer (some (Addr.add a689 (8 : Nat))) = Value.pointer (some (Addr.add a686 (8 : Nat))) ∧ w687 = w687) ∧ rd (World.cell? w615 (Addr.add a686 (8 : Nat))) fun v690 => (∀ (w691 : World), u491 w691 → rd (World.cell? w691 (Addr.add a686 (8 : Nat))) fun v693 => v693 = v690 ∧ w691 = w691) ∧ isK IntKind.u32 v690 fun i694 => (∀ (w695 : World), u491 w695 → (Value.bool !decide (i668 = i694)) = Value.bool !decide (i668 = i694) ∧ w695 = w695) ∧ (∀ (w697 : World), u491 w697 → (Value.bool !decide (i668 = i694)) = Value.bool !decide (i668 = i694) ∧ w697 = w697) ∧ br (!decide (i668 = i694)) (R (Value.bool false) w615) (isK IntKind.i64 (u43 (8 : Nat)) fun i699 => again u41 u42 (alist [((7 : Nat), Value.int IntKind.u32 (IntKind.wrap IntKind.u32 (i55 + andI IntKind.u32 i57 (255 : Int)))), ((8 : Nat), Value.int IntKind.i64 (IntKind.wrap IntKind.i64 (i699 + (1 : Int))))]) w615 (alist [((7 : Nat), u43 (7 : Nat)), ((8 : Nat), u43 (8 : Nat))]) w44)))))) (R (Value.bool t2) w44)) (R (Value.bool t2) w44)) :
 callV Tryz.prog 3 [Value.slice ap an ac] w R :=
 vc_of hm ⟨fun n => match n with | 6 => true | 17 => true | 26 => true | 29 => true | 41 => true | 46 => true | 47 => true | _ => false, fun n => match n with | 20 => .take 0 (.take 1 (.take 2 (.take 3 (.take 4 (.take 5 (.take 7 (.take 8 (.take 9 (.take 10 (.take 11 (.take 12 (.one 6 (.one 13 (.take 14 (.take 15 (.done)))))))))))))))) | 39 => .take 0 (.take 1 (.take 2 (.take 3 (.take 4 (.take 5 (.take 6 (.one 7 (.take 8 (.take 9 (.take 10 (.take 11 (.take 12 (.done))))))))))))) | 42 => .take 0 (.take 1 (.take 2 (.take 3 (.take 4 (.take 5 (.take 6 (.take 7 (.take 8 (.take 9 (.take 10 (.take 11 (.take 12 (.take 13 (.take 14 (.take 15 (.done)))))))))))))))) | 47 => .take 0 (.take 1 (.take 2 (.take 3 (.take 4 (.take 5 (.take 6 (.take 8 (.take 9 (.take 10 (.take 11 (.take 12 (.take 13 (.take 14 (.take 15 (.one 7 (.take 16 (.take 17 (.take 18 (.take 19 (.take 20 (.take 21 (.take 22 (.take 24 (.take 25 (.take 26 (.take 27 (.take 28 (.take 29 (.take 30 (.one 23 (.take 31 (.take 32 (.take 33 (.take 34 (.take 35 (.take 36 (.take 37 (.take 38 (.take 39 (.take 40 (.take 41 (.take 42 (.take 43 (.take 44 (.take 45 (.take 46 (.take 47 (.take 48 (.take 49 (.take 50 (.take 51 (.take 52 (.take 53 (.take 54 (.done))))))))))))))))))))))))))))))))))))))))))))))))))))))) | _ => .done, fun n => match n with | 6 => [] | 9 => [7, 8] | 17 => [12] | 41 => [11, 12] | 26 => [13] | 29 => [11] | 46 => [11] | 47 => [28, 29] | _ => []⟩ Tryz.func3 ent3 (by kernel_rfl) h
end Go.Proofs.YtipikchkbmgloaaGreatDoor
